import Derived.Test.YtcjmejokgoefkaaGreatW22
import Derived.Test.YtcjmejokgoefkaaGreatW16
namespace Go.Proofs.YtcjmejokgoefkaaGreat
open Go.RowKit
set_option linter.unusedSimpArgs false
set_option linter.unusedVariables false
set_option maxRecDepth 100000 in
theorem lacked123 (id : Int) (w : World) (h0 : 0 ≤ id) (h1 : id ≤ 1) : Calls Tryz.prog 123 #[.agg #[.int .i64 1, .slice none 0 0, .int .i64 0], .agg (pgA (npg id)), .int .i64 0] w (Gives (.tuple #[.slice none 0 0, .int .i64 0]) w) := by
  have HS := Hd.mk (((Pre.nil w).alloc (#[.int .i64 1, .slice none 0 0, .int .i64 0]) 44 w.heap.size (by simp)).alloc (pgA (npg id)) 32 (w.heap.size + 1) (by simp))
  go_enter Tryz.func123, Tryz.ntmps123
  go_wp2_with fail
  refine (valid50 _).mono ?_
  rintro e w1 ⟨rfl, hb⟩
  replace HS := Hd.mk (HS.out.step hb)
  clear hb
  obtain ⟨b01, b02, b03, b04, b05, b06, b07, b08⟩ := HS.out.facts w.heap.size (#[.int .i64 1, .slice none 0 0, .int .i64 0]) 44 (by simp)
  obtain ⟨b11, b12, b13, b14, b15, b16, b17, b18⟩ := HS.out.facts (w.heap.size + 1) (pgA (npg id)) 32 (by simp)
  go_wp2_with fail
  refine (encode149 id _ h0 h1).mono ?_
  rintro e w2 ⟨t, rfl, hb⟩
  replace HS := Hd.mk (HS.out.step hb)
  clear hb b01 b02 b03 b04 b05 b06 b07 b08 b11 b12 b13 b14 b15 b16 b17 b18
  obtain ⟨b01, b02, b03, b04, b05, b06, b07, b08⟩ := HS.out.facts w.heap.size (#[.int .i64 1, .slice none 0 0, .int .i64 0]) 44 (by simp)
  obtain ⟨b11, b12, b13, b14, b15, b16, b17, b18⟩ := HS.out.facts (w.heap.size + 1) (pgA (npg id)) 32 (by simp)
  go_wp2_with fail
  go_ret2
  exact ⟨rfl, HS.out.below⟩
set_option maxRecDepth 100000 in
theorem reduce124 (id : Int) (fv : Value) (w : World) : Calls Tryz.prog 124 #[.slice none 0 0, .agg (pgA (npg id)), fv] w (Gives (.tuple #[.agg (pgA (npg id)), .int .i64 0]) w) := by
  have HS := Hd.mk ((((Pre.nil w).alloc (pgA (npg id)) 32 w.heap.size rfl).alloc (pgA zPg) 32 (w.heap.size + 1) (by simp)).alloc (pgA zPg) 32 (w.heap.size + 1 + 1) (by simp))
  go_enter Tryz.func124, Tryz.ntmps124
  go_wp2_with fail
  refine wp_loop_rounds 1 ?_
  rw [rounds_succ]
  go_wp2_with fail
  refine bodyPost_ret (v := .tuple #[.agg (pgA (npg id)), .int .i64 0]) (results_ct rfl rfl (by simp (maxDischargeDepth := 6) [go_sem]) rfl) rfl ⟨rfl, ?_⟩
  (repeat (first | with_reducible exact Below.refl _ _ | with_reducible exact HS.out.below | (with_reducible refine below_drewN ?_ _) | (with_reducible refine Below.drew ?_) | (with_reducible refine Below.alloc ?_ ?_ _) | (with_reducible refine below_setRow ?_ ?_ _)))
  all_goals first | omega | (simp; omega) | (simp; done)
set_option maxRecDepth 100000 in
theorem redo81 (id : Int) (w : World) (h0 : 0 ≤ id) (h1 : id ≤ 1) : Calls Tryz.prog 81 #[.agg #[.int .i64 1, .slice none 0 0, .int .i64 0], .agg (pgA (npg id)), .int .i64 0] w (Gives (.tuple #[.agg (pgA (npg id)), .int .i64 0]) w) := by
  have HS := Hd.mk ((((Pre.nil w).alloc (#[.int .i64 1, .slice none 0 0, .int .i64 0]) 44 w.heap.size (by simp)).alloc (pgA (npg id)) 32 (w.heap.size + 1) (by simp)).alloc (pgA zPg) 32 (w.heap.size + 1 + 1) (by simp))
  go_enter Tryz.func81, Tryz.ntmps81
  go_wp2_with fail
  refine (lacked123 id _ h0 h1).mono ?_
  rintro e w1 ⟨rfl, hb⟩
  replace HS := Hd.mk (HS.out.step hb)
  clear hb
  obtain ⟨b01, b02, b03, b04, b05, b06, b07, b08⟩ := HS.out.facts w.heap.size (#[.int .i64 1, .slice none 0 0, .int .i64 0]) 44 (by simp)
  obtain ⟨b11, b12, b13, b14, b15, b16, b17, b18⟩ := HS.out.facts (w.heap.size + 1) (pgA (npg id)) 32 (by simp)
  obtain ⟨b21, b22, b23, b24, b25, b26, b27, b28⟩ := HS.out.facts (w.heap.size + 1 + 1) (pgA zPg) 32 (by simp)
  go_wp2_with fail
  refine (reduce124 id _ _).mono ?_
  rintro e w2 ⟨rfl, hb⟩
  replace HS := Hd.mk (HS.out.step hb)
  clear hb b01 b02 b03 b04 b05 b06 b07 b08 b11 b12 b13 b14 b15 b16 b17 b18 b21 b22 b23 b24 b25 b26 b27 b28
  obtain ⟨b01, b02, b03, b04, b05, b06, b07, b08⟩ := HS.out.facts w.heap.size (#[.int .i64 1, .slice none 0 0, .int .i64 0]) 44 (by simp)
  obtain ⟨b11, b12, b13, b14, b15, b16, b17, b18⟩ := HS.out.facts (w.heap.size + 1) (pgA (npg id)) 32 (by simp)
  obtain ⟨b21, b22, b23, b24, b25, b26, b27, b28⟩ := HS.out.facts (w.heap.size + 1 + 1) (pgA zPg) 32 (by simp)
  go_wp2_with fail
  refine bodyPost_ret (v := .tuple #[.agg (pgA (npg id)), .int .i64 0]) (results_ct rfl rfl (by simp (maxDischargeDepth := 6) [go_sem, b21, b22]) rfl) rfl ⟨rfl, ?_⟩
  (repeat (first | with_reducible exact Below.refl _ _ | with_reducible exact HS.out.below | (with_reducible refine below_drewN ?_ _) | (with_reducible refine Below.drew ?_) | (with_reducible refine Below.alloc ?_ ?_ _) | (with_reducible refine below_setRow ?_ ?_ _)))
  all_goals first | omega | (simp; omega) | (simp; done)
set_option maxRecDepth 100000 in
theorem now46 (gr gp cp gb cb : Nat) (id : Int) (w : World) (hd : DbC gr gp gb w) (h0 : 0 ≤ id) (h1 : id ≤ 1) : Calls Tryz.prog 46 #[.agg (dbA gr gp cp gb cb), .int .i64 id] w (Gives (.tuple #[.agg (pgA (npg id)), .int .i64 0]) w) := by
  have HD := Hd.mk hd
  clear hd
  have HS := Hd.mk (((Pre.nil w).alloc (dbA gr gp cp gb cb) 84 w.heap.size (by simp)).alloc (pgA zPg) 32 (w.heap.size + 1) (by simp))
  go_enter Tryz.func46, Tryz.ntmps46
  go_wp2_with fail
  refine (get78 id _).mono ?_
  rintro e w1 ⟨rfl, hb⟩
  replace HS := Hd.mk (HS.out.step hb)
  clear hb
  obtain ⟨b01, b02, b03, b04, b05, b06, b07, b08⟩ := HS.out.facts w.heap.size (dbA gr gp cp gb cb) 84 (by simp)
  obtain ⟨b11, b12, b13, b14, b15, b16, b17, b18⟩ := HS.out.facts (w.heap.size + 1) (pgA zPg) 32 (by simp)
  go_wp2_with fail
  replace HS := Hd.mk (HS.out.alloc (pgA zPg) 32 w1.heap.size (by simp))
  refine (head79 gr id _ (HS.out.c HD.out).r h0 h1).mono ?_
  rintro e w2 ⟨rfl, hb⟩
  replace HS := Hd.mk (HS.out.step hb)
  clear hb b01 b02 b03 b04 b05 b06 b07 b08 b11 b12 b13 b14 b15 b16 b17 b18
  obtain ⟨b01, b02, b03, b04, b05, b06, b07, b08⟩ := HS.out.facts w.heap.size (dbA gr gp cp gb cb) 84 (by simp)
  obtain ⟨b11, b12, b13, b14, b15, b16, b17, b18⟩ := HS.out.facts (w.heap.size + 1) (pgA zPg) 32 (by simp)
  go_wp2_with fail
  refine (stored80 gr gp cp gb cb id _ (HS.out.c HD.out) h0 h1).mono ?_
  rintro e w3 ⟨rfl, hb⟩
  replace HS := Hd.mk (HS.out.step hb)
  clear hb b01 b02 b03 b04 b05 b06 b07 b08 b11 b12 b13 b14 b15 b16 b17 b18
  obtain ⟨b01, b02, b03, b04, b05, b06, b07, b08⟩ := HS.out.facts w.heap.size (dbA gr gp cp gb cb) 84 (by simp)
  obtain ⟨b11, b12, b13, b14, b15, b16, b17, b18⟩ := HS.out.facts (w.heap.size + 1) (pgA zPg) 32 (by simp)
  go_wp2_with fail
  replace HS := Hd.mk (HS.out.alloc (pgA (npg id)) 32 w3.heap.size (by simp))
  refine (redo81 id _ h0 h1).mono ?_
  rintro e w4 ⟨rfl, hb⟩
  replace HS := Hd.mk (HS.out.step hb)
  clear hb b01 b02 b03 b04 b05 b06 b07 b08 b11 b12 b13 b14 b15 b16 b17 b18
  obtain ⟨b01, b02, b03, b04, b05, b06, b07, b08⟩ := HS.out.facts w.heap.size (dbA gr gp cp gb cb) 84 (by simp)
  obtain ⟨b11, b12, b13, b14, b15, b16, b17, b18⟩ := HS.out.facts (w.heap.size + 1) (pgA zPg) 32 (by simp)
  go_wp2_with fail
  refine bodyPost_ret (v := .tuple #[.agg (pgA (npg id)), .int .i64 0]) (results_ct rfl rfl (by simp (maxDischargeDepth := 6) [go_sem, b11, b12]) rfl) rfl ⟨rfl, ?_⟩
  (repeat (first | with_reducible exact Below.refl _ _ | with_reducible exact HS.out.below | (with_reducible refine below_drewN ?_ _) | (with_reducible refine Below.drew ?_) | (with_reducible refine Below.alloc ?_ ?_ _) | (with_reducible refine below_setRow ?_ ?_ _)))
  all_goals first | omega | (simp; omega) | (simp; done)
end Go.Proofs.YtcjmejokgoefkaaGreat
