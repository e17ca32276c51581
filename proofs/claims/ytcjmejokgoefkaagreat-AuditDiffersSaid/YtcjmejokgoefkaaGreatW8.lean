import Derived.Test.YtcjmejokgoefkaaGreatW7
namespace Go.Proofs.YtcjmejokgoefkaaGreat
open Go.RowKit
set_option linter.unusedSimpArgs false
set_option linter.unusedVariables false
set_option maxRecDepth 100000 in
theorem valid58 (gr : Nat) (w : World) (hr : w.heap[gr]? = some (.cells rw6 218 (0, 0))) : Calls Tryz.prog 58 #[.agg #[.slice (some ⟨gr, 0, none⟩) 2 2]] w (Gives (.bool true) w) := by
  have HR := Hd.mk hr
  have HS := Hd.mk ((Pre.nil w).alloc #[.slice (some ⟨gr, 0, none⟩) 2 2] 54 w.heap.size rfl)
  go_enter Tryz.func58, Tryz.ntmps58
  go_wp2_with (go_at_call 105; refine (has105 gr _ ((HS.out.below.block gr (Array.getElem?_eq_some_iff.1 HR.out).1).trans HR.out)).mono ?_; rintro e w1 ⟨rfl, hb⟩; replace HS := Hd.mk (HS.out.step hb); clear hb)
  go_ret
  exact ⟨rfl, HS.out.below⟩
set_option maxRecDepth 100000 in
theorem lacking65 (gr : Nat) (w : World) : Calls Tryz.prog 65 #[.agg (kerA gr)] w (Gives (.bool true) w) := by
  go_enter Tryz.func65, Tryz.ntmps65
  go_wp2_with fail
  refine wp_loop_rounds 1 ?_
  rw [rounds_succ]
  go_wp2_with fail
  go_ret
  exact ⟨rfl, (Below.refl _ _).alloc (Nat.le_refl _) _⟩
end Go.Proofs.YtcjmejokgoefkaaGreat
