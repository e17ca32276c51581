import Derived.Test.YtcjmejokgoefkaaGreatW10
namespace Go.Proofs.YtcjmejokgoefkaaGreat
open Go.RowKit
set_option linter.unusedSimpArgs false
set_option linter.unusedVariables false
/-- The only bound of the new archive. -/
def BndC (w : World) (g : Nat) : Prop := g < w.heap.size ∧ w.cell? ⟨g, 0, none⟩ = some (.int .i64 0)
theorem BndC.step {w w' : World} {g : Nat} (h : BndC w g) (hb : Below w.heap.size w w') : BndC w' g :=
  ⟨Nat.lt_of_lt_of_le h.1 hb.size, (hb.cell (p := ⟨g, 0, none⟩) h.1).trans h.2⟩
theorem BndB.toC {B g : Nat} {w : World} (h : BndB B w g) : BndC w g := by
  obtain ⟨-, cur, h1, h2⟩ := h
  exact ⟨(Array.getElem?_eq_some_iff.1 h1).1, by rw [cell_of_row w g 0 _ 3 (0, 0) h1, h2]⟩
set_option maxRecDepth 100000 in
theorem valid38 (gb cb : Nat) (w : World) (hd : BndC w gb) : Calls Tryz.prog 38 #[.agg #[.slice (some ⟨gb, 0, none⟩) 1 cb, .int .i64 2, .slice none 0 0, .int .i64 1, .int .i64 1]] w (Gives (.bool true) w) := by
  have c0 := hd.2
  have cl := hd.1
  clear hd
  go_enter Tryz.func38, Tryz.ntmps38
  go_wp2_with fail
  go_quiet (fail)
  go_wp2_with fail
  refine wp_loop_rounds 1 ?_
  rw [rounds_succ]
  go_wp2_with fail
  refine wp_loop_rounds 1 ?_
  rw [rounds_succ]
  go_wp2_with fail
  go_ret
  exact ⟨rfl, by (repeat (first | with_reducible exact Below.refl _ _ | with_reducible exact HS.out.below | (with_reducible refine below_drewN ?_ _) | (with_reducible refine Below.drew ?_) | (with_reducible refine Below.alloc ?_ (by simp) _) | (with_reducible refine Below.alloc ?_ (by simp; omega) _) | (with_reducible refine below_setRow ?_ (by omega) _)))⟩
set_option maxRecDepth 100000 in
theorem valid39 (w : World) : Calls Tryz.prog 39 #[.agg #[.bool false, .slice none 0 0, .slice none 0 0]] w (Gives (.bool true) w) := by
  go_enter Tryz.func39, Tryz.ntmps39
  go_wp2_with fail
  go_ret
  exact ⟨rfl, by (repeat (first | with_reducible exact Below.refl _ _ | with_reducible exact HS.out.below | (with_reducible refine below_drewN ?_ _) | (with_reducible refine Below.drew ?_) | (with_reducible refine Below.alloc ?_ (by simp) _) | (with_reducible refine Below.alloc ?_ (by simp; omega) _) | (with_reducible refine below_setRow ?_ (by omega) _)))⟩
set_option maxRecDepth 100000 in
theorem valid40 (w : World) : Calls Tryz.prog 40 #[.agg #[.int .i64 2, .int .i64 0, .slice none 0 0, .slice none 0 0]] w (Gives (.bool true) w) := by
  go_enter Tryz.func40, Tryz.ntmps40
  go_wp2_with fail
  refine wp_loop_rounds 1 ?_
  rw [rounds_succ]
  go_wp2_with fail
  refine wp_loop_rounds 1 ?_
  rw [rounds_succ]
  go_wp2_with fail
  go_ret
  exact ⟨rfl, by (repeat (first | with_reducible exact Below.refl _ _ | with_reducible exact HS.out.below | (with_reducible refine below_drewN ?_ _) | (with_reducible refine Below.drew ?_) | (with_reducible refine Below.alloc ?_ (by simp) _) | (with_reducible refine Below.alloc ?_ (by simp; omega) _) | (with_reducible refine below_setRow ?_ (by omega) _)))⟩
set_option maxRecDepth 100000 in
theorem asc42 (a b : Int) (w : World) : Calls Tryz.prog 42 #[.slice none 0 0, .int .i64 a, .int .i64 b] w (Gives (.bool true) w) := by
  go_enter Tryz.func42, Tryz.ntmps42
  go_wp2_with fail
  refine wp_loop_rounds 1 ?_
  rw [rounds_succ]
  go_wp2_with fail
  go_ret
  exact ⟨rfl, by (repeat (first | with_reducible exact Below.refl _ _ | with_reducible exact HS.out.below | (with_reducible refine below_drewN ?_ _) | (with_reducible refine Below.drew ?_) | (with_reducible refine Below.alloc ?_ (by simp) _) | (with_reducible refine Below.alloc ?_ (by simp; omega) _) | (with_reducible refine below_setRow ?_ (by omega) _)))⟩
set_option maxRecDepth 100000 in
theorem valid43 (w : World) : Calls Tryz.prog 43 #[.agg #[.int .i64 0, .slice none 0 0], .int .i64 2] w (Gives (.bool true) w) := by
  go_enter Tryz.func43, Tryz.ntmps43
  go_wp2_with fail
  refine wp_loop_rounds 1 ?_
  rw [rounds_succ]
  go_wp2_with fail
  go_ret
  exact ⟨rfl, by (repeat (first | with_reducible exact Below.refl _ _ | with_reducible exact HS.out.below | (with_reducible refine below_drewN ?_ _) | (with_reducible refine Below.drew ?_) | (with_reducible refine Below.alloc ?_ (by simp) _) | (with_reducible refine Below.alloc ?_ (by simp; omega) _) | (with_reducible refine below_setRow ?_ (by omega) _)))⟩
set_option maxRecDepth 100000 in
theorem eq118 (w : World) : Calls Tryz.prog 118 #[.slice none 0 0, .slice none 0 0] w (Gives (.bool true) w) := by
  go_enter Tryz.func118, Tryz.ntmps118
  go_wp2_with fail
  refine wp_loop_rounds 1 ?_
  rw [rounds_succ]
  go_wp2_with fail
  go_ret
  exact ⟨rfl, by (repeat (first | with_reducible exact Below.refl _ _ | with_reducible exact HS.out.below | (with_reducible refine below_drewN ?_ _) | (with_reducible refine Below.drew ?_) | (with_reducible refine Below.alloc ?_ (by simp) _) | (with_reducible refine Below.alloc ?_ (by simp; omega) _) | (with_reducible refine below_setRow ?_ (by omega) _)))⟩
set_option maxRecDepth 100000 in
theorem same76 (w : World) : Calls Tryz.prog 76 #[.agg #[.int .i64 0, .int .i64 0, .slice none 0 0], .agg #[.int .i64 0, .int .i64 0, .slice none 0 0]] w (Gives (.bool true) w) := by
  have HS := Hd.mk (((Pre.nil w).alloc #[.int .i64 0, .int .i64 0, .slice none 0 0] 68 w.heap.size rfl).alloc #[.int .i64 0, .int .i64 0, .slice none 0 0] 68 (w.heap.size + 1) (by simp))
  go_enter Tryz.func76, Tryz.ntmps76
  go_wp2_with fail
  refine (eq118 _).mono ?_
  rintro e w1 ⟨rfl, hb⟩
  replace HS := Hd.mk (HS.out.step hb)
  clear hb
  obtain ⟨b01, b02, b03, b04, -⟩ := blk (HS.out.mem (w.heap.size, #[.int .i64 0, .int .i64 0, .slice none 0 0], 68) (by simp)).2
  obtain ⟨b11, b12, b13, b14, -⟩ := blk (HS.out.mem ((w.heap.size + 1), #[.int .i64 0, .int .i64 0, .slice none 0 0], 68) (by simp)).2
  go_wp2_with fail
  go_ret
  exact ⟨rfl, by exact HS.out.below⟩
set_option maxRecDepth 100000 in
theorem share77 (w : World) : Calls Tryz.prog 77 #[.agg quA, .int .i64 1] w (Gives (.int .i64 1) w) := by
  go_enter Tryz.func77, Tryz.ntmps77
  go_wp2_with fail
  go_ret
  exact ⟨rfl, (Below.refl _ _).alloc (Nat.le_refl _) _⟩
@[irreducible] def ixq (t : TypeId) (x y : Value) : Sem Value := Instr.index t x y
theorem ixq_eq (t : TypeId) (x y : Value) : Instr.index t x y = ixq t x y := by unfold ixq; rfl
@[go_sem ↓ high] theorem ixw80 (x y : Value) : Instr.index 80 x y = ixq 80 x y := ixq_eq _ _ _
@[go_sem] theorem run_ix80_0 (w : World) : (ixq 80 (.agg shA) (.int .i64 0)).run Tryz.prog w = .ok (.int .i64 1) w := by
  rw [← ixq_eq]
  unfold shA
  kernel_rfl
@[go_sem] theorem run_ix80_1 (w : World) : (ixq 80 (.agg shA) (.int .i64 1)).run Tryz.prog w = .ok (.int .i64 1) w := by
  rw [← ixq_eq]
  unfold shA
  kernel_rfl
@[go_sem] theorem run_ix80_2 (w : World) : (ixq 80 (.agg shA) (.int .i64 2)).run Tryz.prog w = .ok (.int .i64 1) w := by
  rw [← ixq_eq]
  unfold shA
  kernel_rfl
@[go_sem] theorem run_ix80_3 (w : World) : (ixq 80 (.agg shA) (.int .i64 3)).run Tryz.prog w = .ok (.int .i64 1) w := by
  rw [← ixq_eq]
  unfold shA
  kernel_rfl
@[go_sem] theorem run_ix80_4 (w : World) : (ixq 80 (.agg shA) (.int .i64 4)).run Tryz.prog w = .ok (.int .i64 1) w := by
  rw [← ixq_eq]
  unfold shA
  kernel_rfl
@[go_sem] theorem run_ix80_5 (w : World) : (ixq 80 (.agg shA) (.int .i64 5)).run Tryz.prog w = .ok (.int .i64 1) w := by
  rw [← ixq_eq]
  unfold shA
  kernel_rfl
@[go_sem] theorem run_ix80_6 (w : World) : (ixq 80 (.agg shA) (.int .i64 6)).run Tryz.prog w = .ok (.int .i64 1) w := by
  rw [← ixq_eq]
  unfold shA
  kernel_rfl
@[go_sem] theorem run_ix80_7 (w : World) : (ixq 80 (.agg shA) (.int .i64 7)).run Tryz.prog w = .ok (.int .i64 1) w := by
  rw [← ixq_eq]
  unfold shA
  kernel_rfl
@[go_sem] theorem run_ld80q (w : World) (g : Nat) (h : (rowAt w g).size = 10) : (ldv 80 ⟨g, 0, none⟩).run Tryz.prog w = .ok (.agg ((rowAt w g).extract 0 8)) w := ld_mid Tryz.underlying80 rfl info80 0 (by omega) w g h
set_option maxRecDepth 100000 in
theorem valid44 (w : World) : Calls Tryz.prog 44 #[.agg quA] w (Gives (.bool true) w) := by
  go_enter Tryz.func44, Tryz.ntmps44
  go_wp2_with fail
  refine wp_loop_rounds 9 ?_
  iterate 9
    rw [rounds_succ]
    go_wp2_with fail
  have S := (Pre.nil w).alloc quA 82 w.heap.size rfl
  have HS := Hd.mk S
  have hw : ∀ W : World, Pre w.heap.size w [(w.heap.size, quA, 82)] W → Hd (Pre w.heap.size w [(w.heap.size, quA, 82)] W) ∧ rowAt W w.heap.size = quA ∧ (∀ o, W.cell? ⟨w.heap.size, o, none⟩ = quA[o]?) :=
    fun W hW => ⟨⟨hW⟩, (blk (hW.mem (w.heap.size, quA, 82) (by simp)).2).1, (blk (hW.mem (w.heap.size, quA, 82) (by simp)).2).2.2.1⟩
  have HW := Hd.mk hw
  clear hw S
  go_region_held3 (fun W => Hd (Pre w.heap.size w [(w.heap.size, quA, 82)] W) ∧ rowAt W w.heap.size = quA ∧ (∀ o, W.cell? ⟨w.heap.size, o, none⟩ = quA[o]?)) (first | exact HW.out _ HS.out | exact HW.out _ (HS.out.step (Below.refl _ _).drew) | exact HW.out _ ((HS.out.step (Below.refl _ _).drew).step hb)) ((go_at_call 77; refine (share77 _).mono ?_; rintro e w7 ⟨rfl, hb⟩))
  go_wp2_with fail
  go_ret
  exact ⟨rfl, ((HS.out.step (Below.refl _ _).drew).step hb).below⟩
end Go.Proofs.YtcjmejokgoefkaaGreat
