import Derived.Test.YtcjmejokgoefkaaGreatW15
namespace Go.Proofs.YtcjmejokgoefkaaGreat
open Go.RowKit
set_option linter.unusedSimpArgs false
set_option linter.unusedVariables false
set_option maxRecDepth 100000 in
theorem at122 (gr gp cp : Nat) (id : Int) (w : World) (hr : w.heap[gr]? = some (.cells rw6 218 (0, 0))) (hd : DevC w gp) (h0 : 0 ≤ id) (h1 : id ≤ 1) : Calls Tryz.prog 122 #[.agg (kerA gr), .agg #[.slice (some ⟨gp, 0, none⟩) 2 cp, .int .i64 0, .slice none 0 0, .bool false, .slice none 0 0], .int .i64 id, .int .i64 id] w (Gives (.tuple #[.agg (pgA (npg id)), .int .i64 0]) w) := by
  have HR := Hd.mk hr
  clear hr
  have HD := Hd.mk hd
  clear hd
  have HS := Hd.mk ((((Pre.nil w).alloc (kerA gr) 57 w.heap.size (by simp)).alloc (#[.slice (some ⟨gp, 0, none⟩) 2 cp, .int .i64 0, .slice none 0 0, .bool false, .slice none 0 0]) 62 (w.heap.size + 1) (by simp)).alloc (pgA zPg) 32 (w.heap.size + 1 + 1) (by simp))
  go_enter Tryz.func122, Tryz.ntmps122
  go_wp2_with fail
  refine (read147 gp cp id _ (HD.out.step HS.out.below) h0 h1).mono ?_
  rintro e w1 ⟨rfl, hb⟩
  replace HS := Hd.mk (HS.out.step hb)
  clear hb
  obtain ⟨b01, b02, b03, b04, b05, b06, b07, b08⟩ := HS.out.facts w.heap.size (kerA gr) 57 (by simp)
  obtain ⟨b11, b12, b13, b14, b15, b16, b17, b18⟩ := HS.out.facts (w.heap.size + 1) (#[.slice (some ⟨gp, 0, none⟩) 2 cp, .int .i64 0, .slice none 0 0, .bool false, .slice none 0 0]) 62 (by simp)
  obtain ⟨b21, b22, b23, b24, b25, b26, b27, b28⟩ := HS.out.facts (w.heap.size + 1 + 1) (pgA zPg) 32 (by simp)
  go_wp2_with fail
  refine (look148 gr id _ (row_of HR.out HS.out.below) h0 h1).mono ?_
  rintro e w2 ⟨rfl, hb⟩
  replace HS := Hd.mk (HS.out.step hb)
  clear hb b01 b02 b03 b04 b05 b06 b07 b08 b11 b12 b13 b14 b15 b16 b17 b18 b21 b22 b23 b24 b25 b26 b27 b28
  obtain ⟨b01, b02, b03, b04, b05, b06, b07, b08⟩ := HS.out.facts w.heap.size (kerA gr) 57 (by simp)
  obtain ⟨b11, b12, b13, b14, b15, b16, b17, b18⟩ := HS.out.facts (w.heap.size + 1) (#[.slice (some ⟨gp, 0, none⟩) 2 cp, .int .i64 0, .slice none 0 0, .bool false, .slice none 0 0]) 62 (by simp)
  obtain ⟨b21, b22, b23, b24, b25, b26, b27, b28⟩ := HS.out.facts (w.heap.size + 1 + 1) (pgA zPg) 32 (by simp)
  go_wp2_with fail
  refine bodyPost_ret (v := .tuple #[.agg (pgA (npg id)), .int .i64 0]) (results_ct rfl rfl (by simp (maxDischargeDepth := 6) [go_sem, b21, b22]) rfl) rfl ⟨rfl, ?_⟩
  (repeat (first | with_reducible exact Below.refl _ _ | with_reducible exact HS.out.below | (with_reducible refine below_drewN ?_ _) | (with_reducible refine Below.drew ?_) | (with_reducible refine Below.alloc ?_ ?_ _) | (with_reducible refine below_setRow ?_ ?_ _)))
  all_goals first | omega | (simp; omega) | (simp; done)
theorem results_ctt {fn : Func} {p q r : Tmp} {ty : TypeId} (h : fn.results = #[.cell p ty, .tmp q, .tmp r]) {tmps : Array Value} {w : World} {a : Addr} {v u t : Value}
    (hp : tmps.getD p undef = .pointer (some a)) (hl : (ldv ty a).run Tryz.prog w = .ok v w) (hq : tmps.getD q undef = u) (hr : tmps.getD r undef = t) : (results fn tmps).run Tryz.prog w = .ok (.tuple #[v, u, t]) w := by
  rw [← ldv_eq] at hl
  simp only [results, h, Array.getD_eq_getD_getElem?] at hp hq hr ⊢
  simp [hp, hq, hr, asAddr, hl, Sem.run_bind, Result.andThen]
set_option maxRecDepth 100000 in
theorem stored80 (gr gp cp gb cb : Nat) (id : Int) (w : World) (hd : DbC gr gp gb w) (h0 : 0 ≤ id) (h1 : id ≤ 1) : Calls Tryz.prog 80 #[.agg (dbA gr gp cp gb cb), .int .i64 id] w (Gives (.tuple #[.agg (pgA (npg id)), .bool true, .int .i64 0]) w) := by
  have HD := Hd.mk hd
  clear hd
  have HS := Hd.mk (((Pre.nil w).alloc (dbA gr gp cp gb cb) 84 w.heap.size (by simp)).alloc (pgA zPg) 32 (w.heap.size + 1) (by simp))
  go_enter Tryz.func80, Tryz.ntmps80
  go_wp2_with fail
  refine (there120 id _ h0 h1).mono ?_
  rintro e w1 ⟨rfl, hb⟩
  replace HS := Hd.mk (HS.out.step hb)
  clear hb
  obtain ⟨b01, b02, b03, b04, b05, b06, b07, b08⟩ := HS.out.facts w.heap.size (dbA gr gp cp gb cb) 84 (by simp)
  obtain ⟨b11, b12, b13, b14, b15, b16, b17, b18⟩ := HS.out.facts (w.heap.size + 1) (pgA zPg) 32 (by simp)
  go_wp2_with fail
  refine (where121 id _ h0 h1).mono ?_
  rintro e w2 ⟨rfl, hb⟩
  replace HS := Hd.mk (HS.out.step hb)
  clear hb b01 b02 b03 b04 b05 b06 b07 b08 b11 b12 b13 b14 b15 b16 b17 b18
  obtain ⟨b01, b02, b03, b04, b05, b06, b07, b08⟩ := HS.out.facts w.heap.size (dbA gr gp cp gb cb) 84 (by simp)
  obtain ⟨b11, b12, b13, b14, b15, b16, b17, b18⟩ := HS.out.facts (w.heap.size + 1) (pgA zPg) 32 (by simp)
  go_wp2_with fail
  refine (at122 gr gp cp id _ (HS.out.c HD.out).r (HS.out.c HD.out).p h0 h1).mono ?_
  rintro e w3 ⟨rfl, hb⟩
  replace HS := Hd.mk (HS.out.step hb)
  clear hb b01 b02 b03 b04 b05 b06 b07 b08 b11 b12 b13 b14 b15 b16 b17 b18
  obtain ⟨b01, b02, b03, b04, b05, b06, b07, b08⟩ := HS.out.facts w.heap.size (dbA gr gp cp gb cb) 84 (by simp)
  obtain ⟨b11, b12, b13, b14, b15, b16, b17, b18⟩ := HS.out.facts (w.heap.size + 1) (pgA zPg) 32 (by simp)
  go_wp2_with fail
  refine bodyPost_ret (v := .tuple #[.agg (pgA (npg id)), .bool true, .int .i64 0]) (results_ctt rfl rfl (by simp (maxDischargeDepth := 6) [go_sem, b11, b12]) rfl rfl) rfl ⟨rfl, ?_⟩
  (repeat (first | with_reducible exact Below.refl _ _ | with_reducible exact HS.out.below | (with_reducible refine below_drewN ?_ _) | (with_reducible refine Below.drew ?_) | (with_reducible refine Below.alloc ?_ ?_ _) | (with_reducible refine below_setRow ?_ ?_ _)))
  all_goals first | omega | (simp; omega) | (simp; done)
end Go.Proofs.YtcjmejokgoefkaaGreat
