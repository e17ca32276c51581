/- What a page's and a change's cells are where a row hands them in; a slice of bytes that came in; the program's own closed facts. -/
import Derived.Test.YtiebdcejlkeoiaaBase
import Derived.Test.YtiebdcejlkeoiaaOdd
import Derived.WalkKit
import Derived.ProofKit
import Derived.OpenShut
import Derived.ShutString
import Derived.ChangeOld
import Derived.Below
namespace Go.Proofs.Ytiebdcejlkeoiaa
open Go.ChangeShapes Go.WideShapes Go.ChangeAt Go.RowKit
open Go.ChangeMaps (open_string shut_string)
set_option linter.unusedVariables false
set_option linter.unusedSimpArgs false

theorem ownR : ownKnob Try.prog.godebug = none := by kernel_rfl
theorem laidOutR : laidOutB Try.prog = true := by kernel_rfl

/-- A slice of bytes that came in. -/
theorem isBytes_of_openR {H : Type} {enc : TypeId × Value → H} {W : World} {fuel : Nat} {base : Nat} {spare : Nat → Bool} {held : Bool} {a : Option Addr} {len cap : Nat} {x : DataW H × List MemPlace}
    (hf : DataW.trod enc Try.prog W base spare held fuel 22 [Value.slice a len cap] = some x) : IsBytes W a len cap := by
  rcases open_ints Try.underlying22 Try.underlying5 (by kernel_rfl) hf with ⟨hcs, _⟩ | ⟨x, l, c, zs, hcs, _, hl, hm, hz, _, hcell, hwz⟩
  · simp at hcs
    obtain ⟨rfl, rfl, rfl⟩ := hcs
    exact ⟨Nat.le_refl _, by omega, fun j hj => by omega⟩
  · simp at hcs
    obtain ⟨rfl, rfl, rfl⟩ := hcs
    unfold maxLen at hm
    refine ⟨hl, by omega, fun j hj => ?_⟩
    have hz' : len ≤ zs.length := by rw [hz]; split <;> omega
    have hc := hcell j (by omega)
    obtain ⟨b, off, spot⟩ := x
    have h0 := hcell 0 (by omega)
    have hspot : spot = none := by simpa [Addr.add] using World.cell?_spot h0
    subst hspot
    have hw := hwz (zs.getD j 0) (by rw [List.getD, List.getElem?_eq_getElem (by omega)]; exact List.getElem_mem _)
    have hb := bounds_u8 hw
    refine ⟨b, off, (zs.getD j 0).toNat, rfl, ?_, by omega, ?_⟩
    · exact World.block_lt_of_cell? W _ h0
    · rw [Addr.add_lit] at hc
      rw [hc, Int.toNat_of_nonneg hb.1]


section
variable {W : World} {r : Reach} {base : Nat} {v : Value}
theorem cell3 (h : Cell.okWide Try.prog W r base 3 v) : ∃ n, v = .int .i64 n := by
  simp only [Cell.okWide, Try.underlying3] at h
  cases v <;> simp_all [Cell.ok, Try.underlying3]
theorem cell4 (h : Cell.okWide Try.prog W r base 4 v) : ∃ n, v = .bool n := by
  simp only [Cell.okWide, Try.underlying4] at h
  cases v <;> simp_all [Cell.ok, Try.underlying4]
theorem cell9 (h : Cell.okWide Try.prog W r base 9 v) : ∃ n, v = .string n := by
  simp only [Cell.okWide, Try.underlying9] at h
  cases v <;> simp_all [Cell.ok, Try.underlying9]

theorem cells29 : Try.prog.cellTypes Try.prog.depth 29 = some [3, 3, 4, 9, 4, 9] := by kernel_rfl
theorem cells27 : Try.prog.cellTypes Try.prog.depth 27 = some [3, 3, 4, 9, 4, 9, 4, 9, 4, 9, 4, 9, 4, 9, 4, 9, 4, 9, 4, 9, 4, 9, 4, 9, 4, 9, 4, 9, 4, 9, 4, 9, 4, 9] := by kernel_rfl

theorem okCh (h : Value.okWide Try.prog W r base 29 v) : ∃ x : Ch, v = .agg #[.int .i64 x.page, .int .i64 x.slot, .bool x.before.set, .string x.before.data, .bool x.after.set, .string x.after.data] := by
  simp only [Value.okWide, Try.underlying29] at h
  obtain ⟨cs, rfl, hs, ts, ht, _, hc⟩ := h
  rw [cells29] at ht
  obtain rfl := Option.some.inj ht
  have hs' : cs.size = 6 := hs.trans (by kernel_rfl)
  obtain ⟨l⟩ := cs
  rcases l with _|⟨c0, _|⟨c1, _|⟨c2, _|⟨c3, _|⟨c4, _|⟨c5, _|⟨x, l⟩⟩⟩⟩⟩⟩⟩
  all_goals first | (exfalso; simp at hs'; done) | skip
  obtain ⟨u0, hu0, k0⟩ := hc 0 c0 rfl
  obtain rfl : u0 = 3 := (Option.some.inj hu0).symm
  obtain ⟨n0, rfl⟩ := cell3 k0
  obtain ⟨u1, hu1, k1⟩ := hc 1 c1 rfl
  obtain rfl : u1 = 3 := (Option.some.inj hu1).symm
  obtain ⟨n1, rfl⟩ := cell3 k1
  obtain ⟨u2, hu2, k2⟩ := hc 2 c2 rfl
  obtain rfl : u2 = 4 := (Option.some.inj hu2).symm
  obtain ⟨n2, rfl⟩ := cell4 k2
  obtain ⟨u3, hu3, k3⟩ := hc 3 c3 rfl
  obtain rfl : u3 = 9 := (Option.some.inj hu3).symm
  obtain ⟨n3, rfl⟩ := cell9 k3
  obtain ⟨u4, hu4, k4⟩ := hc 4 c4 rfl
  obtain rfl : u4 = 4 := (Option.some.inj hu4).symm
  obtain ⟨n4, rfl⟩ := cell4 k4
  obtain ⟨u5, hu5, k5⟩ := hc 5 c5 rfl
  obtain rfl : u5 = 9 := (Option.some.inj hu5).symm
  obtain ⟨n5, rfl⟩ := cell9 k5
  exact ⟨⟨n0, n1, ⟨n2, n3⟩, ⟨n4, n5⟩⟩, rfl⟩

theorem okPg (h : Value.okWide Try.prog W r base 27 v) : ∃ p : Pg, v = .agg (pgA p) := by
  simp only [Value.okWide, Try.underlying27] at h
  obtain ⟨cs, rfl, hs, ts, ht, _, hc⟩ := h
  rw [cells27] at ht
  obtain rfl := Option.some.inj ht
  have hs' : cs.size = 34 := hs.trans (by kernel_rfl)
  obtain ⟨l⟩ := cs
  rcases l with _|⟨c0, _|⟨c1, _|⟨c2, _|⟨c3, _|⟨c4, _|⟨c5, _|⟨c6, _|⟨c7, _|⟨c8, _|⟨c9, _|⟨c10, _|⟨c11, _|⟨c12, _|⟨c13, _|⟨c14, _|⟨c15, _|⟨c16, _|⟨c17, _|⟨c18, _|⟨c19, _|⟨c20, _|⟨c21, _|⟨c22, _|⟨c23, _|⟨c24, _|⟨c25, _|⟨c26, _|⟨c27, _|⟨c28, _|⟨c29, _|⟨c30, _|⟨c31, _|⟨c32, _|⟨c33, _|⟨x, l⟩⟩⟩⟩⟩⟩⟩⟩⟩⟩⟩⟩⟩⟩⟩⟩⟩⟩⟩⟩⟩⟩⟩⟩⟩⟩⟩⟩⟩⟩⟩⟩⟩⟩⟩
  all_goals first | (exfalso; simp at hs'; done) | skip
  obtain ⟨u0, hu0, k0⟩ := hc 0 c0 rfl
  obtain rfl : u0 = 3 := (Option.some.inj hu0).symm
  obtain ⟨n0, rfl⟩ := cell3 k0
  obtain ⟨u1, hu1, k1⟩ := hc 1 c1 rfl
  obtain rfl : u1 = 3 := (Option.some.inj hu1).symm
  obtain ⟨n1, rfl⟩ := cell3 k1
  obtain ⟨u2, hu2, k2⟩ := hc 2 c2 rfl
  obtain rfl : u2 = 4 := (Option.some.inj hu2).symm
  obtain ⟨n2, rfl⟩ := cell4 k2
  obtain ⟨u3, hu3, k3⟩ := hc 3 c3 rfl
  obtain rfl : u3 = 9 := (Option.some.inj hu3).symm
  obtain ⟨n3, rfl⟩ := cell9 k3
  obtain ⟨u4, hu4, k4⟩ := hc 4 c4 rfl
  obtain rfl : u4 = 4 := (Option.some.inj hu4).symm
  obtain ⟨n4, rfl⟩ := cell4 k4
  obtain ⟨u5, hu5, k5⟩ := hc 5 c5 rfl
  obtain rfl : u5 = 9 := (Option.some.inj hu5).symm
  obtain ⟨n5, rfl⟩ := cell9 k5
  obtain ⟨u6, hu6, k6⟩ := hc 6 c6 rfl
  obtain rfl : u6 = 4 := (Option.some.inj hu6).symm
  obtain ⟨n6, rfl⟩ := cell4 k6
  obtain ⟨u7, hu7, k7⟩ := hc 7 c7 rfl
  obtain rfl : u7 = 9 := (Option.some.inj hu7).symm
  obtain ⟨n7, rfl⟩ := cell9 k7
  obtain ⟨u8, hu8, k8⟩ := hc 8 c8 rfl
  obtain rfl : u8 = 4 := (Option.some.inj hu8).symm
  obtain ⟨n8, rfl⟩ := cell4 k8
  obtain ⟨u9, hu9, k9⟩ := hc 9 c9 rfl
  obtain rfl : u9 = 9 := (Option.some.inj hu9).symm
  obtain ⟨n9, rfl⟩ := cell9 k9
  obtain ⟨u10, hu10, k10⟩ := hc 10 c10 rfl
  obtain rfl : u10 = 4 := (Option.some.inj hu10).symm
  obtain ⟨n10, rfl⟩ := cell4 k10
  obtain ⟨u11, hu11, k11⟩ := hc 11 c11 rfl
  obtain rfl : u11 = 9 := (Option.some.inj hu11).symm
  obtain ⟨n11, rfl⟩ := cell9 k11
  obtain ⟨u12, hu12, k12⟩ := hc 12 c12 rfl
  obtain rfl : u12 = 4 := (Option.some.inj hu12).symm
  obtain ⟨n12, rfl⟩ := cell4 k12
  obtain ⟨u13, hu13, k13⟩ := hc 13 c13 rfl
  obtain rfl : u13 = 9 := (Option.some.inj hu13).symm
  obtain ⟨n13, rfl⟩ := cell9 k13
  obtain ⟨u14, hu14, k14⟩ := hc 14 c14 rfl
  obtain rfl : u14 = 4 := (Option.some.inj hu14).symm
  obtain ⟨n14, rfl⟩ := cell4 k14
  obtain ⟨u15, hu15, k15⟩ := hc 15 c15 rfl
  obtain rfl : u15 = 9 := (Option.some.inj hu15).symm
  obtain ⟨n15, rfl⟩ := cell9 k15
  obtain ⟨u16, hu16, k16⟩ := hc 16 c16 rfl
  obtain rfl : u16 = 4 := (Option.some.inj hu16).symm
  obtain ⟨n16, rfl⟩ := cell4 k16
  obtain ⟨u17, hu17, k17⟩ := hc 17 c17 rfl
  obtain rfl : u17 = 9 := (Option.some.inj hu17).symm
  obtain ⟨n17, rfl⟩ := cell9 k17
  obtain ⟨u18, hu18, k18⟩ := hc 18 c18 rfl
  obtain rfl : u18 = 4 := (Option.some.inj hu18).symm
  obtain ⟨n18, rfl⟩ := cell4 k18
  obtain ⟨u19, hu19, k19⟩ := hc 19 c19 rfl
  obtain rfl : u19 = 9 := (Option.some.inj hu19).symm
  obtain ⟨n19, rfl⟩ := cell9 k19
  obtain ⟨u20, hu20, k20⟩ := hc 20 c20 rfl
  obtain rfl : u20 = 4 := (Option.some.inj hu20).symm
  obtain ⟨n20, rfl⟩ := cell4 k20
  obtain ⟨u21, hu21, k21⟩ := hc 21 c21 rfl
  obtain rfl : u21 = 9 := (Option.some.inj hu21).symm
  obtain ⟨n21, rfl⟩ := cell9 k21
  obtain ⟨u22, hu22, k22⟩ := hc 22 c22 rfl
  obtain rfl : u22 = 4 := (Option.some.inj hu22).symm
  obtain ⟨n22, rfl⟩ := cell4 k22
  obtain ⟨u23, hu23, k23⟩ := hc 23 c23 rfl
  obtain rfl : u23 = 9 := (Option.some.inj hu23).symm
  obtain ⟨n23, rfl⟩ := cell9 k23
  obtain ⟨u24, hu24, k24⟩ := hc 24 c24 rfl
  obtain rfl : u24 = 4 := (Option.some.inj hu24).symm
  obtain ⟨n24, rfl⟩ := cell4 k24
  obtain ⟨u25, hu25, k25⟩ := hc 25 c25 rfl
  obtain rfl : u25 = 9 := (Option.some.inj hu25).symm
  obtain ⟨n25, rfl⟩ := cell9 k25
  obtain ⟨u26, hu26, k26⟩ := hc 26 c26 rfl
  obtain rfl : u26 = 4 := (Option.some.inj hu26).symm
  obtain ⟨n26, rfl⟩ := cell4 k26
  obtain ⟨u27, hu27, k27⟩ := hc 27 c27 rfl
  obtain rfl : u27 = 9 := (Option.some.inj hu27).symm
  obtain ⟨n27, rfl⟩ := cell9 k27
  obtain ⟨u28, hu28, k28⟩ := hc 28 c28 rfl
  obtain rfl : u28 = 4 := (Option.some.inj hu28).symm
  obtain ⟨n28, rfl⟩ := cell4 k28
  obtain ⟨u29, hu29, k29⟩ := hc 29 c29 rfl
  obtain rfl : u29 = 9 := (Option.some.inj hu29).symm
  obtain ⟨n29, rfl⟩ := cell9 k29
  obtain ⟨u30, hu30, k30⟩ := hc 30 c30 rfl
  obtain rfl : u30 = 4 := (Option.some.inj hu30).symm
  obtain ⟨n30, rfl⟩ := cell4 k30
  obtain ⟨u31, hu31, k31⟩ := hc 31 c31 rfl
  obtain rfl : u31 = 9 := (Option.some.inj hu31).symm
  obtain ⟨n31, rfl⟩ := cell9 k31
  obtain ⟨u32, hu32, k32⟩ := hc 32 c32 rfl
  obtain rfl : u32 = 4 := (Option.some.inj hu32).symm
  obtain ⟨n32, rfl⟩ := cell4 k32
  obtain ⟨u33, hu33, k33⟩ := hc 33 c33 rfl
  obtain rfl : u33 = 9 := (Option.some.inj hu33).symm
  obtain ⟨n33, rfl⟩ := cell9 k33
  refine ⟨⟨n0, n1, fun i => match i with | 0 => ⟨n2, n3⟩ | 1 => ⟨n4, n5⟩ | 2 => ⟨n6, n7⟩ | 3 => ⟨n8, n9⟩ | 4 => ⟨n10, n11⟩ | 5 => ⟨n12, n13⟩ | 6 => ⟨n14, n15⟩ | 7 => ⟨n16, n17⟩ | 8 => ⟨n18, n19⟩ | 9 => ⟨n20, n21⟩ | 10 => ⟨n22, n23⟩ | 11 => ⟨n24, n25⟩ | 12 => ⟨n26, n27⟩ | 13 => ⟨n28, n29⟩ | 14 => ⟨n30, n31⟩ | _ => ⟨n32, n33⟩⟩, ?_⟩
  unfold pgA
  rfl
end

end Go.Proofs.Ytiebdcejlkeoiaa
