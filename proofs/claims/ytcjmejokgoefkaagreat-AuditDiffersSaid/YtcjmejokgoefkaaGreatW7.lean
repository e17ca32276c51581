import Derived.Test.YtcjmejokgoefkaaGreatW6
namespace Go.Proofs.YtcjmejokgoefkaaGreat
open Go.RowKit
set_option linter.unusedSimpArgs false
set_option linter.unusedVariables false
theorem pos107 (w : World) : Calls Tryz.prog 107 #[.int .i64 0] w (Gives (.bool true) w) := by
  go_enter Tryz.func107, Tryz.ntmps107
  go_wp2_with fail
  go_ret
  exact ⟨rfl, Below.refl _ _⟩
set_option maxRecDepth 100000 in
theorem bad106 (w : World) : Calls Tryz.prog 106 #[.agg #[.int .i64 0, .int .i64 0, .int .i64 0]] w (Gives (.bool false) w) := by
  have HS := Hd.mk ((Pre.nil w).alloc #[.int .i64 0, .int .i64 0, .int .i64 0] 218 w.heap.size rfl)
  go_enter Tryz.func106, Tryz.ntmps106
  go_wp2_with (go_at_call 107; refine (pos107 _).mono ?_; rintro e w1 ⟨rfl, hb⟩; replace HS := Hd.mk (HS.out.step hb); clear hb; obtain ⟨b1, b2, b3, b4, -⟩ := blk (HS.out.mem (w.heap.size, #[.int .i64 0, .int .i64 0, .int .i64 0], 218) (by simp)).2)
  go_ret
  exact ⟨rfl, HS.out.below⟩
theorem rw6_get (i : Nat) (h : i < 6) : rw6[i]? = some (.int .i64 0) := by
  unfold rw6
  rcases i with _|_|_|_|_|_|i <;> first | rfl | omega
set_option maxRecDepth 100000 in
theorem idx142 (gr : Nat) (w : World) (hr : w.heap[gr]? = some (.cells rw6 218 (0, 0))) : Calls Tryz.prog 142 #[.slice (some ⟨gr, 0, none⟩) 2 2, .func (.func 106) #[] #[]] w (Gives (.int .i64 (-1)) w) := by
  have HR := Hd.mk hr
  have c : ∀ i, i < 6 → w.cell? ⟨gr, i, none⟩ = some (.int .i64 0) := fun i hi => by rw [cell_of_row w gr i _ 218 (0, 0) hr, rw6_get i hi]
  have c0 := c 0 (by omega)
  have c1 := c 1 (by omega)
  have c2 := c 2 (by omega)
  clear c hr
  go_enter Tryz.func142, Tryz.ntmps142
  go_wp2_with fail
  refine wp_loop_rounds 3 ?_
  rw [rounds_succ]
  go_wp2_with fail
  refine (bad106 _).mono ?_
  rintro e w1 ⟨rfl, hb⟩
  have hr1 := (hb.block gr (Array.getElem?_eq_some_iff.1 HR.out).1).trans HR.out
  have c : ∀ i, i < 6 → w1.cell? ⟨gr, i, none⟩ = some (.int .i64 0) := fun i hi => by rw [cell_of_row w1 gr i _ 218 (0, 0) hr1, rw6_get i hi]
  have d3 := c 3 (by omega)
  have d4 := c 4 (by omega)
  have d5 := c 5 (by omega)
  have HB := Hd.mk hb
  clear c hr1 hb c0 c1 c2
  go_wp2_with fail
  rw [rounds_succ]
  go_wp2_with fail
  refine (bad106 _).mono ?_
  rintro e w2 ⟨rfl, hb2⟩
  have HB2 := Hd.mk (HB.out.trans (hb2.mono HB.out.size))
  clear hb2
  go_wp2_with fail
  rw [rounds_succ]
  go_wp2_with fail
  go_ret
  exact ⟨rfl, HB2.out⟩
theorem has105 (gr : Nat) (w : World) (hr : w.heap[gr]? = some (.cells rw6 218 (0, 0))) : Calls Tryz.prog 105 #[.slice (some ⟨gr, 0, none⟩) 2 2, .func (.func 106) #[] #[]] w (Gives (.bool false) w) := by
  go_enter Tryz.func105, Tryz.ntmps105
  go_wp2_with fail
  refine (idx142 gr _ hr).mono ?_
  rintro e w1 ⟨rfl, hb⟩
  go_wp2_with fail
  go_ret
  exact ⟨rfl, hb⟩
end Go.Proofs.YtcjmejokgoefkaaGreat
