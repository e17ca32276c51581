/- For every input the law BackgroundFair of chapter 37 returns true: a kind with a share, of which work is always offered, is chosen at least once in each Round + 1 choices that follow each other. No condition. -/
import Derived.Test.YtiebdcejlkeoiaaRows
import Derived.Test.YtiebdcejlkeoiaaRowKit
import Derived.Test.YtiebdcejlkeoiaaFair
namespace Go.Proofs.Ytiebdcejlkeoiaa
open Go.ChangeShapes Go.WideShapes Go.ChangeAt Go.RowKit
open Go.ChangeMaps (open_string shut_string)
set_option linter.unusedVariables false

theorem okU8 {W : World} {r : Reach} {base : Nat} {v : Value} (h : Value.okWide Try.prog W r base 5 v) : ∃ m : Nat, m < 256 ∧ v = .int .u8 (m : Int) := by
  simp only [Value.okWide, Try.underlying5, Cell.okWide] at h
  cases v <;> simp [Cell.ok, Try.underlying5] at h
  obtain ⟨rfl, h⟩ := h
  rename_i n
  have hb : 0 ≤ n ∧ n < 256 := by
    have := h
    simp [IntKind.has, IntKind.min, IntKind.max, IntKind.signed, IntKind.bits] at this
    omega
  exact ⟨n.toNat, by omega, by rw [Int.toNat_of_nonneg hb.1]⟩

set_option maxRecDepth 100000 in
theorem backgroundFair_lifted (os : Os) (started : os.Started) (H : Type) (enc : TypeId × Value → H) :
    ReturnsInHanded {} Try.checked os 10 .any (Rows.backgroundFairSpec.pre6 enc Try.prog Try.f10 Rows.backgroundFairRow.domain false) (Rows.backgroundFairSpec.post enc Try.prog Try.f10 false true false false) := by
  refine returnsInHanded_of_change (C := Try.checked) ownR started (by kernel_rfl) Try.func10
    (ChangeSpec.witness6 (enc := enc) (C := Try.checked) false ⟨#[], #[.slice none 0 0, .int .u8 0], []⟩ 8 (by kernel_rfl) (by kernel_rfl) (by kernel_rfl) (by kernel_rfl)) ?_
  intro W base args ds gs before hval0 hW hcnd _
  have hval : ∀ (j : Nat) t v, Try.f10.params[j]? = some t → args[j]? = some v → Value.okWide Try.prog W .any base t v := hval0
  have hW' := hW
  obtain ⟨p, q, hA0, hV, rfl, hfz, hnd⟩ := hW
  have hA : DataW.TrodAll enc Try.prog W 0 (fun _ => true) true Try.f10.params.toList args.toList ds p := hA0
  rw [Try.params10] at hA hval
  obtain ⟨v0, vs0, d0, ds0, p0, q0, hargs, rfl, rfl, h0, r0⟩ := trodAll_cons hA
  obtain ⟨v1, vs1, d1, ds1, p1, q1, rfl, rfl, rfl, h1, r1⟩ := trodAll_cons r0
  obtain ⟨rfl, rfl, rfl⟩ := trodAll_nil r1
  obtain rfl : args = #[v0, v1] := by cases args; simp_all
  obtain ⟨rfl, rfl⟩ := trodVars_none hV
  obtain ⟨a0, len0, cap0, rfl⟩ := okWide_slice Try.underlying22 (hval 0 22 v0 rfl rfl)
  have k0 := h0
  have lt0 : ∀ x ∈ p0, x.block < W.heap.size := by obtain ⟨m, hm⟩ := k0; exact DataW.trod_lt m _ _ _ hm
  obtain ⟨n1, hn1, rfl⟩ := okU8 (hval 1 5 v1 rfl rfl)
  have k1 := h1
  have lt1 : ∀ x ∈ p1, x.block < W.heap.size := by obtain ⟨m, hm⟩ := k1; exact DataW.trod_lt m _ _ _ hm
  have w0 : IsBytes W a0 len0 cap0 := by
    obtain ⟨fuel, hf⟩ := h0
    exact isBytes_of_openR (by simpa [Value.cells] using hf)
  clear hA0 hval0
  refine (fair_walk a0 len0 cap0 n1 W w0 hn1).mono fun e W' ⟨he, bel⟩ => ?_
  subst he
  exact ⟨_, rfl, _, _, _, [], _, [], hW', trodAll_mk1 (shut_bool Try.underlying4 _), (trodAll_cons_mk (Below.trod laidOutR (by kernel_rfl) (of_decide_eq_true (by kernel_rfl)) k0 bel lt0) (trodAll_cons_mk (Below.trod laidOutR (by kernel_rfl) (of_decide_eq_true (by kernel_rfl)) k1 bel lt1) trodAll_mk0)), rfl, bel.frame _, fun h => by cases h⟩

theorem backgroundFair_holds : Rows.BackgroundFairSaid :=
  OpenClaim.holds_of_wide 10 Try.f10 rfl rfl rfl rfl rfl rfl rfl ⟨rfl, rfl, rfl, rfl, rfl⟩ rfl rfl rfl rfl rfl (by kernel_rfl) Try.func10 (by kernel_rfl)
    (of_decide_eq_true (by kernel_rfl)) (by unfold Func.isWrapper; first | (rw [if_pos (by decide +kernel)]; kernel_rfl) | (rw [if_neg (by decide +kernel)]; exact ⟨rfl, rfl⟩))
    (fun os started H enc _ => backgroundFair_lifted os started H enc)
#print axioms backgroundFair_holds

end Go.Proofs.Ytiebdcejlkeoiaa
