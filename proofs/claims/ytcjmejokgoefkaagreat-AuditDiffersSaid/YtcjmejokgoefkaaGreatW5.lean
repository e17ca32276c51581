import Derived.Test.YtcjmejokgoefkaaGreatW4
import Derived.Deep.RegionHeld3
namespace Go.Proofs.YtcjmejokgoefkaaGreat
open Go.RowKit
set_option linter.unusedSimpArgs false
set_option linter.unusedVariables false
set_option maxRecDepth 100000 in
theorem end51 (w : World) : Calls Tryz.prog 51 #[.agg #[.int .i64 1, .slice none 0 0, .int .i64 0]] w (Gives (.int .i64 0) w) := by
  go_enter Tryz.func51, Tryz.ntmps51
  go_wp2_with fail
  go_ret
  exact ⟨rfl, by (repeat (first | with_reducible exact Below.refl _ _ | with_reducible exact HS.out.below | (with_reducible refine below_drewN ?_ _) | (with_reducible refine Below.drew ?_) | (with_reducible refine Below.alloc ?_ (by simp) _) | (with_reducible refine Below.alloc ?_ (by simp; omega) _) | (with_reducible refine below_setRow ?_ (by omega) _)))⟩
set_option maxRecDepth 100000 in
theorem valid50 (w : World) : Calls Tryz.prog 50 #[.agg #[.int .i64 1, .slice none 0 0, .int .i64 0]] w (Gives (.bool true) w) := by
  go_enter Tryz.func50, Tryz.ntmps50
  go_wp2_with fail
  have S := (Pre.nil w).alloc #[.int .i64 1, .slice none 0 0, .int .i64 0] 44 w.heap.size rfl
  have hw : ∀ W : World, Pre w.heap.size w [(w.heap.size, #[.int .i64 1, .slice none 0 0, .int .i64 0], 44)] W → Hd (Pre w.heap.size w [(w.heap.size, #[.int .i64 1, .slice none 0 0, .int .i64 0], 44)] W) ∧ rowAt W w.heap.size = #[.int .i64 1, .slice none 0 0, .int .i64 0] ∧ (∀ o, W.cell? ⟨w.heap.size, o, none⟩ = (#[.int .i64 1, .slice none 0 0, .int .i64 0] : Array Value)[o]?) := fun W hW => ⟨⟨hW⟩, (hW.at w.heap.size #[.int .i64 1, .slice none 0 0, .int .i64 0] 44 (by simp)).1, (blk (hW.mem (w.heap.size, #[.int .i64 1, .slice none 0 0, .int .i64 0], 44) (by simp)).2).2.2.1⟩
  have HWW := Hd.mk hw
  have HS := Hd.mk S
  clear S hw
  go_region_held3 (fun W => Hd (Pre w.heap.size w [(w.heap.size, #[.int .i64 1, .slice none 0 0, .int .i64 0], 44)] W) ∧ rowAt W w.heap.size = #[.int .i64 1, .slice none 0 0, .int .i64 0] ∧ (∀ o, W.cell? ⟨w.heap.size, o, none⟩ = (#[.int .i64 1, .slice none 0 0, .int .i64 0] : Array Value)[o]?)) ((refine HWW.out _ ?_; first | exact HS.out.step (Below.refl _ _).drew | exact (HS.out.step (Below.refl _ _).drew).step hb)) ((go_at_call 51; refine (end51 _).mono ?_; rintro e w1 ⟨rfl, hb⟩))
  have S1 := (HS.out.step (Below.refl _ _).drew).step hb
  obtain ⟨e1, e2, e3, e4, -⟩ := blk (S1.mem (w.heap.size, #[.int .i64 1, .slice none 0 0, .int .i64 0], 44) (by simp)).2
  have HS := Hd.mk S1
  clear S1 hb HWW
  go_wp2_with fail
  refine wp_loop_rounds 1 ?_
  rw [rounds_succ]
  go_wp2_with fail
  go_ret
  exact ⟨rfl, by (repeat (first | with_reducible exact Below.refl _ _ | with_reducible exact HS.out.below | (with_reducible refine below_drewN ?_ _) | (with_reducible refine Below.drew ?_) | (with_reducible refine Below.alloc ?_ (by simp) _) | (with_reducible refine Below.alloc ?_ (by simp; omega) _) | (with_reducible refine below_setRow ?_ (by omega) _)))⟩
set_option maxRecDepth 100000 in
theorem valid55 (w : World) : Calls Tryz.prog 55 #[.agg #[.int .i64 1, .slice none 0 0, .int .i64 0]] w (Gives (.bool true) w) := by
  go_enter Tryz.func55, Tryz.ntmps55
  go_wp2_with fail
  refine wp_loop_rounds 1 ?_
  rw [rounds_succ]
  go_wp2_with fail
  go_ret
  exact ⟨rfl, by (repeat (first | with_reducible exact Below.refl _ _ | with_reducible exact HS.out.below | (with_reducible refine below_drewN ?_ _) | (with_reducible refine Below.drew ?_) | (with_reducible refine Below.alloc ?_ (by simp) _) | (with_reducible refine Below.alloc ?_ (by simp; omega) _) | (with_reducible refine below_setRow ?_ (by omega) _)))⟩
set_option maxRecDepth 100000 in
theorem valid56 (w : World) : Calls Tryz.prog 56 #[.agg #[.slice none 0 0, .slice none 0 0]] w (Gives (.bool true) w) := by
  go_enter Tryz.func56, Tryz.ntmps56
  go_wp2_with fail
  refine wp_loop_rounds 1 ?_
  rw [rounds_succ]
  go_wp2_with fail
  refine wp_loop_rounds 1 ?_
  rw [rounds_succ]
  go_wp2_with fail
  go_ret
  exact ⟨rfl, by (repeat (first | with_reducible exact Below.refl _ _ | with_reducible exact HS.out.below | (with_reducible refine below_drewN ?_ _) | (with_reducible refine Below.drew ?_) | (with_reducible refine Below.alloc ?_ (by simp) _) | (with_reducible refine Below.alloc ?_ (by simp; omega) _) | (with_reducible refine below_setRow ?_ (by omega) _)))⟩
set_option maxRecDepth 100000 in
theorem valid57 (w : World) : Calls Tryz.prog 57 #[.slice none 0 0] w (Gives (.bool true) w) := by
  go_enter Tryz.func57, Tryz.ntmps57
  go_wp2_with fail
  refine wp_loop_rounds 1 ?_
  rw [rounds_succ]
  go_wp2_with fail
  go_ret
  exact ⟨rfl, by (repeat (first | with_reducible exact Below.refl _ _ | with_reducible exact HS.out.below | (with_reducible refine below_drewN ?_ _) | (with_reducible refine Below.drew ?_) | (with_reducible refine Below.alloc ?_ (by simp) _) | (with_reducible refine Below.alloc ?_ (by simp; omega) _) | (with_reducible refine below_setRow ?_ (by omega) _)))⟩
set_option maxRecDepth 100000 in
theorem within54 (w : World) : Calls Tryz.prog 54 #[.int .i64 2, .int .i64 1, .int .i64 64] w (Gives (.bool true) w) := by
  go_enter Tryz.func54, Tryz.ntmps54
  go_wp2_with fail
  go_ret
  exact ⟨rfl, by (repeat (first | with_reducible exact Below.refl _ _ | with_reducible exact HS.out.below | (with_reducible refine below_drewN ?_ _) | (with_reducible refine Below.drew ?_) | (with_reducible refine Below.alloc ?_ (by simp) _) | (with_reducible refine Below.alloc ?_ (by simp; omega) _) | (with_reducible refine below_setRow ?_ (by omega) _)))⟩
end Go.Proofs.YtcjmejokgoefkaaGreat
