/- For every input the law BackgroundExact of chapter 37 returns true: the queues that are valid, and what is chosen of any work, are those of the document. No condition. -/
import Derived.Test.YtiebdcejlkeoiaaRows
import Derived.Test.YtiebdcejlkeoiaaRowKit
import Derived.Test.YtiebdcejlkeoiaaBgExact
namespace Go.Proofs.Ytiebdcejlkeoiaa
open Go.ChangeShapes Go.WideShapes Go.ChangeAt Go.RowKit
open Go.ChangeMaps (open_string shut_string)
set_option linter.unusedVariables false

theorem cells64 : Try.prog.cellTypes Try.prog.depth 64 = some [3, 3, 3, 3, 3, 3, 3, 3, 3, 3] := by kernel_rfl
theorem okQu {W : World} {r : Reach} {base : Nat} {v : Value} (h : Value.okWide Try.prog W r base 64 v) : ∃ q : Qu, v = .agg (quA q) := by
  simp only [Value.okWide, Try.underlying64] at h
  obtain ⟨cs, rfl, hs, ts, ht, _, hc⟩ := h
  rw [cells64] at ht
  obtain rfl := Option.some.inj ht
  have hs' : cs.size = 10 := hs.trans (by kernel_rfl)
  obtain ⟨l⟩ := cs
  rcases l with _|⟨c0, _|⟨c1, _|⟨c2, _|⟨c3, _|⟨c4, _|⟨c5, _|⟨c6, _|⟨c7, _|⟨c8, _|⟨c9, _|⟨x, l⟩⟩⟩⟩⟩⟩⟩⟩⟩⟩⟩
  all_goals first | (exfalso; simp at hs'; done) | skip
  obtain ⟨u0, hu0, k0⟩ := hc 0 c0 rfl
  obtain rfl : u0 = 3 := (Option.some.inj hu0).symm
  obtain ⟨n0, rfl⟩ := cell3 k0
  obtain ⟨u1, hu1, k1⟩ := hc 1 c1 rfl
  obtain rfl : u1 = 3 := (Option.some.inj hu1).symm
  obtain ⟨n1, rfl⟩ := cell3 k1
  obtain ⟨u2, hu2, k2⟩ := hc 2 c2 rfl
  obtain rfl : u2 = 3 := (Option.some.inj hu2).symm
  obtain ⟨n2, rfl⟩ := cell3 k2
  obtain ⟨u3, hu3, k3⟩ := hc 3 c3 rfl
  obtain rfl : u3 = 3 := (Option.some.inj hu3).symm
  obtain ⟨n3, rfl⟩ := cell3 k3
  obtain ⟨u4, hu4, k4⟩ := hc 4 c4 rfl
  obtain rfl : u4 = 3 := (Option.some.inj hu4).symm
  obtain ⟨n4, rfl⟩ := cell3 k4
  obtain ⟨u5, hu5, k5⟩ := hc 5 c5 rfl
  obtain rfl : u5 = 3 := (Option.some.inj hu5).symm
  obtain ⟨n5, rfl⟩ := cell3 k5
  obtain ⟨u6, hu6, k6⟩ := hc 6 c6 rfl
  obtain rfl : u6 = 3 := (Option.some.inj hu6).symm
  obtain ⟨n6, rfl⟩ := cell3 k6
  obtain ⟨u7, hu7, k7⟩ := hc 7 c7 rfl
  obtain rfl : u7 = 3 := (Option.some.inj hu7).symm
  obtain ⟨n7, rfl⟩ := cell3 k7
  obtain ⟨u8, hu8, k8⟩ := hc 8 c8 rfl
  obtain rfl : u8 = 3 := (Option.some.inj hu8).symm
  obtain ⟨n8, rfl⟩ := cell3 k8
  obtain ⟨u9, hu9, k9⟩ := hc 9 c9 rfl
  obtain rfl : u9 = 3 := (Option.some.inj hu9).symm
  obtain ⟨n9, rfl⟩ := cell3 k9
  refine ⟨⟨fun i => match i with | 0 => n0 | 1 => n1 | 2 => n2 | 3 => n3 | 4 => n4 | 5 => n5 | 6 => n6 | _ => n7, n8, n9⟩, ?_⟩
  unfold quA
  rfl

set_option maxRecDepth 100000 in
theorem backgroundExact_lifted (os : Os) (started : os.Started) (H : Type) (enc : TypeId × Value → H) :
    ReturnsInHanded {} Try.checked os 9 .any (Rows.backgroundExactSpec.pre6 enc Try.prog Try.f9 Rows.backgroundExactRow.domain false) (Rows.backgroundExactSpec.post enc Try.prog Try.f9 false true false false) := by
  refine returnsInHanded_of_change (C := Try.checked) ownR started (by kernel_rfl) Try.func9
    (ChangeSpec.witness6 (enc := enc) (C := Try.checked) false ⟨#[], #[.slice none 0 0, .agg #[.int .i64 0, .int .i64 0, .int .i64 0, .int .i64 0, .int .i64 0, .int .i64 0, .int .i64 0, .int .i64 0, .int .i64 0, .int .i64 0]], []⟩ 8 (by kernel_rfl) (by kernel_rfl) (by kernel_rfl) (by kernel_rfl)) ?_
  intro W base args ds gs before hval0 hW hcnd _
  have hval : ∀ (j : Nat) t v, Try.f9.params[j]? = some t → args[j]? = some v → Value.okWide Try.prog W .any base t v := hval0
  have hW' := hW
  obtain ⟨p, q, hA0, hV, rfl, hfz, hnd⟩ := hW
  have hA : DataW.TrodAll enc Try.prog W 0 (fun _ => true) true Try.f9.params.toList args.toList ds p := hA0
  rw [Try.params9] at hA hval
  obtain ⟨v0, vs0, d0, ds0, p0, q0, hargs, rfl, rfl, h0, r0⟩ := trodAll_cons hA
  obtain ⟨v1, vs1, d1, ds1, p1, q1, rfl, rfl, rfl, h1, r1⟩ := trodAll_cons r0
  obtain ⟨rfl, rfl, rfl⟩ := trodAll_nil r1
  obtain rfl : args = #[v0, v1] := by cases args; simp_all
  obtain ⟨rfl, rfl⟩ := trodVars_none hV
  obtain ⟨a0, len0, cap0, rfl⟩ := okWide_slice Try.underlying22 (hval 0 22 v0 rfl rfl)
  have k0 := h0
  have lt0 : ∀ x ∈ p0, x.block < W.heap.size := by obtain ⟨m, hm⟩ := k0; exact DataW.trod_lt m _ _ _ hm
  obtain ⟨q1, rfl⟩ := okQu (hval 1 64 v1 rfl rfl)
  have k1 := h1
  have lt1 : ∀ x ∈ p1, x.block < W.heap.size := by obtain ⟨m, hm⟩ := k1; exact DataW.trod_lt m _ _ _ hm
  have w0 : IsBytes W a0 len0 cap0 := by
    obtain ⟨fuel, hf⟩ := h0
    exact isBytes_of_openR (by simpa [Value.cells] using hf)
  clear hA0 hval0
  refine (bgexact_walk a0 len0 cap0 q1 W w0).mono fun e W' ⟨he, bel⟩ => ?_
  subst he
  exact ⟨_, rfl, _, _, _, [], _, [], hW', trodAll_mk1 (shut_bool Try.underlying4 _), (trodAll_cons_mk (Below.trod laidOutR (by kernel_rfl) (of_decide_eq_true (by kernel_rfl)) k0 bel lt0) (trodAll_cons_mk (Below.trod laidOutR (by kernel_rfl) (of_decide_eq_true (by kernel_rfl)) k1 bel lt1) trodAll_mk0)), rfl, bel.frame _, fun h => by cases h⟩

theorem backgroundExact_holds : Rows.BackgroundExactSaid :=
  OpenClaim.holds_of_wide 9 Try.f9 rfl rfl rfl rfl rfl rfl rfl ⟨rfl, rfl, rfl, rfl, rfl⟩ rfl rfl rfl rfl rfl (by kernel_rfl) Try.func9 (by kernel_rfl)
    (of_decide_eq_true (by kernel_rfl)) (by unfold Func.isWrapper; first | (rw [if_pos (by decide +kernel)]; kernel_rfl) | (rw [if_neg (by decide +kernel)]; exact ⟨rfl, rfl⟩))
    (fun os started H enc _ => backgroundExact_lifted os started H enc)
#print axioms backgroundExact_holds

end Go.Proofs.Ytiebdcejlkeoiaa
