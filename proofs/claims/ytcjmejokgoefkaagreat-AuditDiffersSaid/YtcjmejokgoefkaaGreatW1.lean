/- The first functions of the sanity check: the parts of a new database. -/
import Derived.Test.YtcjmejokgoefkaaGreatDb
namespace Go.Proofs.YtcjmejokgoefkaaGreat
open Go.RowKit
set_option linter.unusedSimpArgs false
set_option linter.unusedVariables false

theorem Pre.at {B : Nat} {w0 w : World} {l : Ents} (h : Pre B w0 l w) (g : Nat) (arr : Array Value) (t : TypeId) (hm : (g, arr, t) ∈ l) : rowAt w g = arr ∧ live w g = true ∧ g ≠ w.heap.size ∧ g ≠ w.heap.size + 1 := by
  obtain ⟨h1, h2⟩ := h.mem _ hm
  have h3 := h.lt hm
  dsimp only at h2 h3
  exact ⟨rowAt_of h2, by simp only [live, h2], by omega, by omega⟩
theorem below_drewN {B : Nat} {u v : World} (h : Below B u v) (n : Nat) : Below B u (v.drewN n) := ⟨h.os, h.tape, h.output, h.size, h.block⟩
def Gives (v : Value) (w : World) (e : Ending) (w' : World) : Prop := e = .returned v ∧ Below w.heap.size w w'

theorem new31 (w : World) : Calls Tryz.prog 31 #[] w (Gives (.agg #[.int .i64 1, .slice none 0 0, .int .i64 0]) w) := by
  go_enter Tryz.func31, Tryz.ntmps31
  go_wp2_with fail
  refine bodyPost_ret (v := .agg #[.int .i64 1, .slice none 0 0, .int .i64 0]) (results_c rfl rfl (by simp (maxDischargeDepth := 6) [go_sem])) rfl ⟨rfl, ?_⟩
  (repeat (first | with_reducible exact Below.refl _ _ | with_reducible exact HS.out.below | (with_reducible refine below_drewN ?_ _) | (with_reducible refine Below.alloc ?_ (by simp) _) | (with_reducible refine Below.alloc ?_ (by simp; omega) _) | (with_reducible refine below_setRow ?_ (by omega) _)))
theorem shares20 (w : World) : Calls Tryz.prog 20 #[] w (Gives (.agg shA) w) := by
  go_enter Tryz.func20, Tryz.ntmps20
  go_wp2_with fail
  refine bodyPost_ret (v := .agg shA) (results_c rfl rfl (by simp (maxDischargeDepth := 6) [go_sem])) rfl ⟨rfl, ?_⟩
  (repeat (first | with_reducible exact Below.refl _ _ | with_reducible exact HS.out.below | (with_reducible refine below_drewN ?_ _) | (with_reducible refine Below.alloc ?_ (by simp) _) | (with_reducible refine Below.alloc ?_ (by simp; omega) _) | (with_reducible refine below_setRow ?_ (by omega) _)))
theorem new29 (w : World) : Calls Tryz.prog 29 #[.int .i64 1] w (Gives (.tuple #[.agg #[.int .i64 1, .slice none 0 0, .int .i64 0], .int .i64 0]) w) := by
  go_enter Tryz.func29, Tryz.ntmps29
  go_wp2_with fail
  refine bodyPost_ret (v := .tuple #[.agg #[.int .i64 1, .slice none 0 0, .int .i64 0], .int .i64 0]) (results_ct rfl rfl (by simp (maxDischargeDepth := 6) [go_sem]) rfl) rfl ⟨rfl, ?_⟩
  (repeat (first | with_reducible exact Below.refl _ _ | with_reducible exact HS.out.below | (with_reducible refine below_drewN ?_ _) | (with_reducible refine Below.alloc ?_ (by simp) _) | (with_reducible refine Below.alloc ?_ (by simp; omega) _) | (with_reducible refine below_setRow ?_ (by omega) _)))

set_option maxRecDepth 100000 in
theorem valid34 (w : World) : Calls Tryz.prog 34 #[.agg #[.int .i64 2, .int .i64 0, .slice none 0 0, .slice none 0 0]] w (Gives (.bool true) w) := by
  go_enter Tryz.func34, Tryz.ntmps34
  go_wp2_with fail
  refine wp_loop_rounds 1 ?_
  rw [rounds_succ]
  go_wp2_with fail
  refine wp_loop_rounds 1 ?_
  rw [rounds_succ]
  go_wp2_with fail
  go_ret
  exact ⟨rfl, by (repeat (first | with_reducible exact Below.refl _ _ | with_reducible exact HS.out.below | (with_reducible refine below_drewN ?_ _) | (with_reducible refine Below.alloc ?_ (by simp) _) | (with_reducible refine Below.alloc ?_ (by simp; omega) _) | (with_reducible refine below_setRow ?_ (by omega) _)))⟩
set_option maxRecDepth 100000 in
theorem valid35 (w : World) : Calls Tryz.prog 35 #[.agg quA] w (Gives (.bool true) w) := by
  go_enter Tryz.func35, Tryz.ntmps35
  go_wp2_with fail
  refine wp_loop_rounds 9 ?_
  iterate 9
    rw [rounds_succ]
    go_wp2_with fail
  go_quiet (fail)
  go_wp2_with fail
  go_ret
  exact ⟨rfl, by (repeat (first | with_reducible exact Below.refl _ _ | with_reducible exact HS.out.below | (with_reducible refine below_drewN ?_ _) | (with_reducible refine Below.alloc ?_ (by simp) _) | (with_reducible refine Below.alloc ?_ (by simp; omega) _) | (with_reducible refine below_setRow ?_ (by omega) _)))⟩
theorem new18 (w : World) : Calls Tryz.prog 18 #[.int .i64 2, .int .i64 0] w (Gives (.tuple #[.agg #[.int .i64 2, .int .i64 0, .slice none 0 0, .slice none 0 0], .int .i64 0]) w) := by
  go_enter Tryz.func18, Tryz.ntmps18
  go_wp2_with fail
  refine (valid34 _).mono ?_
  rintro e w1 ⟨rfl, hb⟩
  have S := (((Pre.nil w).alloc #[.int .i64 0, .int .i64 0, .slice none 0 0, .slice none 0 0] 76 w.heap.size rfl).alloc #[.int .i64 2, .int .i64 0, .slice none 0 0, .slice none 0 0] 76 (w.heap.size + 1) (by simp)).step hb
  obtain ⟨b1, b2, -, -⟩ := S.at w.heap.size #[.int .i64 0, .int .i64 0, .slice none 0 0, .slice none 0 0] 76 (by simp)
  obtain ⟨d1, d2, -, -⟩ := S.at (w.heap.size + 1) #[.int .i64 2, .int .i64 0, .slice none 0 0, .slice none 0 0] 76 (by simp)
  have HS := Hd.mk S
  clear S hb
  go_wp2_with fail
  refine bodyPost_ret (v := .tuple #[.agg #[.int .i64 2, .int .i64 0, .slice none 0 0, .slice none 0 0], .int .i64 0]) (results_ct rfl rfl (by simp (maxDischargeDepth := 6) [go_sem, b1, b2, d1, d2]) rfl) rfl ⟨rfl, ?_⟩
  (repeat (first | with_reducible exact Below.refl _ _ | with_reducible exact HS.out.below | (with_reducible refine below_drewN ?_ _) | (with_reducible refine Below.alloc ?_ (by simp) _) | (with_reducible refine Below.alloc ?_ (by simp; omega) _) | (with_reducible refine below_setRow ?_ (by omega) _)))
theorem new19 (w : World) : Calls Tryz.prog 19 #[.agg shA] w (Gives (.tuple #[.agg quA, .int .i64 0]) w) := by
  go_enter Tryz.func19, Tryz.ntmps19
  go_wp2_with fail
  refine (valid35 _).mono ?_
  rintro e w1 ⟨rfl, hb⟩
  have S := ((((Pre.nil w).alloc shA 80 w.heap.size rfl).alloc zQu 82 (w.heap.size + 1) (by simp)).alloc quA 82 (w.heap.size + 1 + 1) (by simp)).step hb
  obtain ⟨b1, b2, -, -⟩ := S.at (w.heap.size + 1) zQu 82 (by simp)
  obtain ⟨d1, d2, -, -⟩ := S.at (w.heap.size + 1 + 1) quA 82 (by simp)
  have HS := Hd.mk S
  clear S hb
  go_wp2_with fail
  refine bodyPost_ret (v := .tuple #[.agg quA, .int .i64 0]) (results_ct rfl rfl (by simp (maxDischargeDepth := 6) [go_sem, b1, b2, d1, d2]) rfl) rfl ⟨rfl, ?_⟩
  (repeat (first | with_reducible exact Below.refl _ _ | with_reducible exact HS.out.below | (with_reducible refine below_drewN ?_ _) | (with_reducible refine Below.alloc ?_ (by simp) _) | (with_reducible refine Below.alloc ?_ (by simp; omega) _) | (with_reducible refine below_setRow ?_ (by omega) _)))
end Go.Proofs.YtcjmejokgoefkaaGreat
