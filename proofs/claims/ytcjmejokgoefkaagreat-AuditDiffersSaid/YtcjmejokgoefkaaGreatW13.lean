import Derived.Test.YtcjmejokgoefkaaGreatW12
namespace Go.Proofs.YtcjmejokgoefkaaGreat
open Go.RowKit
set_option linter.unusedSimpArgs false
set_option linter.unusedVariables false
theorem Pre.facts {B : Nat} {w0 w : World} {l : Ents} (h : Pre B w0 l w) (g : Nat) (arr : Array Value) (t : TypeId) (hm : (g, arr, t) ∈ l) : rowAt w g = arr ∧ live w g = true ∧ (∀ o, w.cell? ⟨g, o, none⟩ = arr[o]?) ∧ (∀ o, w.frozen? ⟨g, o, none⟩ = false) ∧ g < w.heap.size ∧ g ≠ w.heap.size ∧ g ≠ w.heap.size + 1 ∧ g ≠ w.heap.size + 1 + 1 := by
  obtain ⟨h1, h2, h4, h5, -⟩ := blk (h.mem _ hm).2
  have h3 := h.lt hm
  dsimp only at h1 h2 h3 h4 h5
  exact ⟨h1, h2, h4, h5, h3, by omega, by omega, by omega⟩
set_option maxRecDepth 100000 in
theorem find98 (id : Int) (w : World) : Calls Tryz.prog 98 #[.agg #[.int .i64 1, .slice none 0 0, .int .i64 0], .int .i64 id] w (Gives (.int .i64 (-1)) w) := by
  have HS := Hd.mk (((Pre.nil w).alloc (#[.int .i64 1, .slice none 0 0, .int .i64 0]) 47 w.heap.size (by simp)).alloc (#[.int .i64 id]) 3 (w.heap.size + 1) (by simp))
  go_enter Tryz.func98, Tryz.ntmps98
  go_wp2_with fail
  refine (idx109 _ _).mono ?_
  rintro e w1 ⟨rfl, hb⟩
  replace HS := Hd.mk (HS.out.step hb)
  clear hb
  obtain ⟨b01, b02, b03, b04, b05, b06, b07, b08⟩ := HS.out.facts w.heap.size (#[.int .i64 1, .slice none 0 0, .int .i64 0]) 47 (by simp)
  obtain ⟨b11, b12, b13, b14, b15, b16, b17, b18⟩ := HS.out.facts (w.heap.size + 1) (#[.int .i64 id]) 3 (by simp)
  go_wp2_with fail
  go_ret
  exact ⟨rfl, HS.out.below⟩
set_option maxRecDepth 100000 in
theorem Find111 (id : Int) (w : World) : Calls Tryz.prog 111 #[.agg #[.int .i64 1, .slice none 0 0, .int .i64 0], .int .i64 id] w (Gives (.int .i64 (-1)) w) := by
  have HS := Hd.mk ((Pre.nil w).alloc (#[.int .i64 1, .slice none 0 0, .int .i64 0]) 47 w.heap.size (by simp))
  go_enter Tryz.func111, Tryz.ntmps111
  go_wp2_with fail
  refine (valid55 _).mono ?_
  rintro e w1 ⟨rfl, hb⟩
  replace HS := Hd.mk (HS.out.step hb)
  clear hb
  obtain ⟨b01, b02, b03, b04, b05, b06, b07, b08⟩ := HS.out.facts w.heap.size (#[.int .i64 1, .slice none 0 0, .int .i64 0]) 47 (by simp)
  go_wp2_with fail
  refine (find98 id _).mono ?_
  rintro e w2 ⟨rfl, hb⟩
  replace HS := Hd.mk (HS.out.step hb)
  clear hb b01 b02 b03 b04 b05 b06 b07 b08
  obtain ⟨b01, b02, b03, b04, b05, b06, b07, b08⟩ := HS.out.facts w.heap.size (#[.int .i64 1, .slice none 0 0, .int .i64 0]) 47 (by simp)
  go_wp2_with fail
  go_ret
  exact ⟨rfl, HS.out.below⟩
set_option maxRecDepth 100000 in
theorem get78 (id : Int) (w : World) : Calls Tryz.prog 78 #[.agg #[.int .i64 1, .slice none 0 0, .int .i64 0], .int .i64 id] w (Gives (.tuple #[.agg (pgA zPg), .bool false]) w) := by
  have HS := Hd.mk (((Pre.nil w).alloc (#[.int .i64 1, .slice none 0 0, .int .i64 0]) 47 w.heap.size (by simp)).alloc (pgA zPg) 32 (w.heap.size + 1) (by simp))
  go_enter Tryz.func78, Tryz.ntmps78
  go_wp2_with fail
  refine (Find111 id _).mono ?_
  rintro e w1 ⟨rfl, hb⟩
  replace HS := Hd.mk (HS.out.step hb)
  clear hb
  obtain ⟨b01, b02, b03, b04, b05, b06, b07, b08⟩ := HS.out.facts w.heap.size (#[.int .i64 1, .slice none 0 0, .int .i64 0]) 47 (by simp)
  obtain ⟨b11, b12, b13, b14, b15, b16, b17, b18⟩ := HS.out.facts (w.heap.size + 1) (pgA zPg) 32 (by simp)
  go_wp2_with fail
  refine bodyPost_ret (v := .tuple #[.agg (pgA zPg), .bool false]) (results_ct rfl rfl (by simp (maxDischargeDepth := 6) [go_sem, b11, b12]) rfl) rfl ⟨rfl, ?_⟩
  exact below_setRow HS.out.below (by omega) _
theorem idx169 (fv : Value) (w : World) : Calls Tryz.prog 169 #[.slice none 0 0, fv] w (Gives (.int .i64 (-1)) w) := by
  go_enter Tryz.func169, Tryz.ntmps169
  go_wp2_with fail
  refine wp_loop_rounds 1 ?_
  rw [rounds_succ]
  go_wp2_with fail
  go_ret
  exact ⟨rfl, Below.refl _ _⟩
theorem idx199 (id : Int) (w : World) : Calls Tryz.prog 199 #[.slice none 0 0, .int .i64 id] w (Gives (.int .i64 (-1)) w) := by
  go_enter Tryz.func199, Tryz.ntmps199
  go_wp2_with fail
  refine wp_loop_rounds 1 ?_
  rw [rounds_succ]
  go_wp2_with fail
  go_ret
  exact ⟨rfl, Below.refl _ _⟩
theorem has174 (id : Int) (w : World) : Calls Tryz.prog 174 #[.slice none 0 0, .int .i64 id] w (Gives (.bool false) w) := by
  go_enter Tryz.func174, Tryz.ntmps174
  go_wp2_with fail
  refine (idx199 id _).mono ?_
  rintro e w1 ⟨rfl, hb⟩
  go_wp2_with fail
  go_ret
  exact ⟨rfl, hb⟩
theorem search171 (id : Int) (fv : Value) (w : World) : Calls Tryz.prog 171 #[.slice none 0 0, .int .i64 id, fv] w (Gives (.tuple #[.int .i64 0, .bool false]) w) := by
  go_enter Tryz.func171, Tryz.ntmps171
  go_wp2_with fail
  refine wp_loop_rounds 1 ?_
  rw [rounds_succ]
  go_wp2_with fail
  go_ret2
  exact ⟨rfl, Below.refl _ _⟩
theorem within54c (id : Int) (w : World) (h0 : 0 ≤ id) (h1 : id ≤ 1) : Calls Tryz.prog 54 #[.int .i64 id, .int .i64 0, .int .i64 1] w (Gives (.bool true) w) := by
  go_enter Tryz.func54, Tryz.ntmps54
  go_wp2_with fail
  go_ret
  exact ⟨rfl, Below.refl _ _⟩
theorem two {id : Int} (h0 : 0 ≤ id) (h1 : id ≤ 1) : id = 0 ∨ id = 1 := by omega
theorem rows_cells {w w' : World} {gr : Nat} (h : w.heap[gr]? = some (.cells rw6 218 (0, 0))) (hb : Below w.heap.size w w') : gr < w'.heap.size ∧ w'.cell? ⟨gr, 0, none⟩ = some (.int .i64 0) ∧ w'.cell? ⟨gr, 3, none⟩ = some (.int .i64 0) := by
  have hr := (hb.block gr (Array.getElem?_eq_some_iff.1 h).1).trans h
  have c : ∀ i, i < 6 → w'.cell? ⟨gr, i, none⟩ = some (.int .i64 0) := fun i hi => by rw [cell_of_row w' gr i _ 218 (0, 0) hr, rw6_get i hi]
  exact ⟨(Array.getElem?_eq_some_iff.1 hr).1, c 0 (by omega), c 3 (by omega)⟩
theorem row_of {w w' : World} {gr : Nat} (h : w.heap[gr]? = some (.cells rw6 218 (0, 0))) (hb : Below w.heap.size w w') : w'.heap[gr]? = some (.cells rw6 218 (0, 0)) := (hb.block gr (Array.getElem?_eq_some_iff.1 h).1).trans h
set_option maxRecDepth 100000 in
theorem lack145 (gr : Nat) (id : Int) (w : World) : Calls Tryz.prog 145 #[.agg (kerA gr), .int .i64 id] w (Gives (.int .i64 (-1)) w) := by
  have HS := Hd.mk (((Pre.nil w).alloc (kerA gr) 57 w.heap.size (by simp)).alloc (#[.int .i64 id]) 3 (w.heap.size + 1) (by simp))
  go_enter Tryz.func145, Tryz.ntmps145
  go_wp2_with fail
  refine (idx169 _ _).mono ?_
  rintro e w1 ⟨rfl, hb⟩
  replace HS := Hd.mk (HS.out.step hb)
  clear hb
  obtain ⟨b01, b02, b03, b04, b05, b06, b07, b08⟩ := HS.out.facts w.heap.size (kerA gr) 57 (by simp)
  obtain ⟨b11, b12, b13, b14, b15, b16, b17, b18⟩ := HS.out.facts (w.heap.size + 1) (#[.int .i64 id]) 3 (by simp)
  go_wp2_with fail
  go_ret
  exact ⟨rfl, HS.out.below⟩
set_option maxRecDepth 100000 in
theorem newest119 (gr : Nat) (id : Int) (w : World) (hr : w.heap[gr]? = some (.cells rw6 218 (0, 0))) (h0 : 0 ≤ id) (h1 : id ≤ 1) : Calls Tryz.prog 119 #[.agg (kerA gr), .int .i64 id] w (Gives (.int .i64 0) w) := by
  have HR := Hd.mk hr
  clear hr
  have HS := Hd.mk ((Pre.nil w).alloc (kerA gr) 57 w.heap.size (by simp))
  obtain rfl | rfl := two h0 h1
  all_goals
    go_enter Tryz.func119, Tryz.ntmps119
    go_wp2_with fail
    refine (get78 _ _).mono ?_
    rintro e w1 ⟨rfl, hb⟩
    replace HS := Hd.mk (HS.out.step hb)
    clear hb
    obtain ⟨b01, b02, b03, b04, b05, b06, b07, b08⟩ := HS.out.facts w.heap.size (kerA gr) 57 (by simp)
    go_wp2_with fail
    replace HS := Hd.mk (HS.out.alloc (pgA zPg) 32 w1.heap.size (by simp))
    refine (lack145 gr _ _).mono ?_
    rintro e w2 ⟨rfl, hb⟩
    replace HS := Hd.mk (HS.out.step hb)
    clear hb b01 b02 b03 b04 b05 b06 b07 b08
    obtain ⟨b01, b02, b03, b04, b05, b06, b07, b08⟩ := HS.out.facts w.heap.size (kerA gr) 57 (by simp)
    go_wp2_with fail
    refine (within54c _ _ (by omega) (by omega)).mono ?_
    rintro e w3 ⟨rfl, hb⟩
    replace HS := Hd.mk (HS.out.step hb)
    clear hb b01 b02 b03 b04 b05 b06 b07 b08
    obtain ⟨b01, b02, b03, b04, b05, b06, b07, b08⟩ := HS.out.facts w.heap.size (kerA gr) 57 (by simp)
    obtain ⟨c5, c0, c1⟩ := rows_cells HR.out HS.out.below
    go_wp2_with fail
    go_ret
    exact ⟨rfl, HS.out.below⟩
set_option maxRecDepth 100000 in
theorem head79 (gr : Nat) (id : Int) (w : World) (hr : w.heap[gr]? = some (.cells rw6 218 (0, 0))) (h0 : 0 ≤ id) (h1 : id ≤ 1) : Calls Tryz.prog 79 #[.agg (kerA gr), .int .i64 id] w (Gives (.int .i64 0) w) := by
  have HR := Hd.mk hr
  clear hr
  have HS := Hd.mk ((Pre.nil w).alloc (kerA gr) 57 w.heap.size (by simp))
  go_enter Tryz.func79, Tryz.ntmps79
  go_wp2_with fail
  refine (valid36 gr _ (row_of HR.out HS.out.below)).mono ?_
  rintro e w1 ⟨rfl, hb⟩
  replace HS := Hd.mk (HS.out.step hb)
  clear hb
  obtain ⟨b01, b02, b03, b04, b05, b06, b07, b08⟩ := HS.out.facts w.heap.size (kerA gr) 57 (by simp)
  go_wp2_with fail
  refine (within54c id _ h0 h1).mono ?_
  rintro e w2 ⟨rfl, hb⟩
  replace HS := Hd.mk (HS.out.step hb)
  clear hb b01 b02 b03 b04 b05 b06 b07 b08
  obtain ⟨b01, b02, b03, b04, b05, b06, b07, b08⟩ := HS.out.facts w.heap.size (kerA gr) 57 (by simp)
  go_wp2_with fail
  refine (newest119 gr id _ (row_of HR.out HS.out.below) h0 h1).mono ?_
  rintro e w3 ⟨rfl, hb⟩
  replace HS := Hd.mk (HS.out.step hb)
  clear hb b01 b02 b03 b04 b05 b06 b07 b08
  obtain ⟨b01, b02, b03, b04, b05, b06, b07, b08⟩ := HS.out.facts w.heap.size (kerA gr) 57 (by simp)
  go_wp2_with fail
  go_ret
  exact ⟨rfl, HS.out.below⟩
theorem of74 (id : Int) (w : World) (h0 : 0 ≤ id) (h1 : id ≤ 1) : Calls Tryz.prog 74 #[.int .i64 id] w (Gives (.int .i64 0) w) := by
  obtain rfl | rfl := two h0 h1
  all_goals
    go_enter Tryz.func74, Tryz.ntmps74
    go_wp2_with fail
    go_ret
    exact ⟨rfl, Below.refl _ _⟩
set_option maxRecDepth 100000 in
theorem there120 (id : Int) (w : World) (h0 : 0 ≤ id) (h1 : id ≤ 1) : Calls Tryz.prog 120 #[.agg #[.bool false, .slice none 0 0, .slice none 0 0], .int .i64 id] w (Gives (.bool true) w) := by
  have HS := Hd.mk ((Pre.nil w).alloc (#[.bool false, .slice none 0 0, .slice none 0 0]) 73 w.heap.size (by simp))
  go_enter Tryz.func120, Tryz.ntmps120
  go_wp2_with fail
  refine (of74 id _ h0 h1).mono ?_
  rintro e w1 ⟨rfl, hb⟩
  replace HS := Hd.mk (HS.out.step hb)
  clear hb
  obtain ⟨b01, b02, b03, b04, b05, b06, b07, b08⟩ := HS.out.facts w.heap.size (#[.bool false, .slice none 0 0, .slice none 0 0]) 73 (by simp)
  go_wp2_with fail
  refine (valid39 _).mono ?_
  rintro e w2 ⟨rfl, hb⟩
  replace HS := Hd.mk (HS.out.step hb)
  clear hb b01 b02 b03 b04 b05 b06 b07 b08
  obtain ⟨b01, b02, b03, b04, b05, b06, b07, b08⟩ := HS.out.facts w.heap.size (#[.bool false, .slice none 0 0, .slice none 0 0]) 73 (by simp)
  go_wp2_with fail
  go_ret
  exact ⟨rfl, HS.out.below⟩
set_option maxRecDepth 100000 in
theorem place146 (id : Int) (w : World) : Calls Tryz.prog 146 #[.agg #[.int .i64 2, .int .i64 0, .slice none 0 0, .slice none 0 0], .int .i64 id] w (Gives (.tuple #[.int .i64 0, .bool false]) w) := by
  have HS := Hd.mk ((Pre.nil w).alloc (#[.int .i64 2, .int .i64 0, .slice none 0 0, .slice none 0 0]) 76 w.heap.size (by simp))
  go_enter Tryz.func146, Tryz.ntmps146
  go_wp2_with fail
  refine (search171 id _ _).mono ?_
  rintro e w1 ⟨rfl, hb⟩
  replace HS := Hd.mk (HS.out.step hb)
  clear hb
  obtain ⟨b01, b02, b03, b04, b05, b06, b07, b08⟩ := HS.out.facts w.heap.size (#[.int .i64 2, .int .i64 0, .slice none 0 0, .slice none 0 0]) 76 (by simp)
  go_wp2_with fail
  go_ret2
  exact ⟨rfl, HS.out.below⟩
set_option maxRecDepth 100000 in
theorem where121 (id : Int) (w : World) (h0 : 0 ≤ id) (h1 : id ≤ 1) : Calls Tryz.prog 121 #[.agg #[.int .i64 2, .int .i64 0, .slice none 0 0, .slice none 0 0], .int .i64 id] w (Gives (.tuple #[.int .i64 id, .int .i64 0]) w) := by
  have HS := Hd.mk ((Pre.nil w).alloc (#[.int .i64 2, .int .i64 0, .slice none 0 0, .slice none 0 0]) 76 w.heap.size (by simp))
  obtain rfl | rfl := two h0 h1
  all_goals
    go_enter Tryz.func121, Tryz.ntmps121
    go_wp2_with fail
    refine (valid40 _).mono ?_
    rintro e w1 ⟨rfl, hb⟩
    replace HS := Hd.mk (HS.out.step hb)
    clear hb
    obtain ⟨b01, b02, b03, b04, b05, b06, b07, b08⟩ := HS.out.facts w.heap.size (#[.int .i64 2, .int .i64 0, .slice none 0 0, .slice none 0 0]) 76 (by simp)
    go_wp2_with fail
    refine (place146 _ _).mono ?_
    rintro e w2 ⟨rfl, hb⟩
    replace HS := Hd.mk (HS.out.step hb)
    clear hb b01 b02 b03 b04 b05 b06 b07 b08
    obtain ⟨b01, b02, b03, b04, b05, b06, b07, b08⟩ := HS.out.facts w.heap.size (#[.int .i64 2, .int .i64 0, .slice none 0 0, .slice none 0 0]) 76 (by simp)
    go_wp2_with fail
    go_ret2
    exact ⟨rfl, HS.out.below⟩
set_option maxRecDepth 100000 in
theorem there66 (gp cp : Nat) (id : Int) (w : World) (h0 : 0 ≤ id) (h1 : id ≤ 1) : Calls Tryz.prog 66 #[.agg #[.slice (some ⟨gp, 0, none⟩) 2 cp, .int .i64 0, .slice none 0 0, .bool false, .slice none 0 0], .int .i64 id] w (Gives (.bool true) w) := by
  have HS := Hd.mk ((Pre.nil w).alloc (#[.slice (some ⟨gp, 0, none⟩) 2 cp, .int .i64 0, .slice none 0 0, .bool false, .slice none 0 0]) 62 w.heap.size (by simp))
  obtain rfl | rfl := two h0 h1
  all_goals
    go_enter Tryz.func66, Tryz.ntmps66
    go_wp2_with fail
    go_ret
    exact ⟨rfl, HS.out.below⟩
set_option maxRecDepth 100000 in
theorem usable173 (gp cp : Nat) (id : Int) (w : World) (hd : DevC w gp) (h0 : 0 ≤ id) (h1 : id ≤ 1) : Calls Tryz.prog 173 #[.agg #[.slice (some ⟨gp, 0, none⟩) 2 cp, .int .i64 0, .slice none 0 0, .bool false, .slice none 0 0], .int .i64 id] w (Gives (.int .i64 0) w) := by
  have HD := Hd.mk hd
  clear hd
  have HS := Hd.mk ((Pre.nil w).alloc (#[.slice (some ⟨gp, 0, none⟩) 2 cp, .int .i64 0, .slice none 0 0, .bool false, .slice none 0 0]) 62 w.heap.size (by simp))
  go_enter Tryz.func173, Tryz.ntmps173
  go_wp2_with fail
  refine (valid37 gp cp _ (HD.out.step HS.out.below)).mono ?_
  rintro e w1 ⟨rfl, hb⟩
  replace HS := Hd.mk (HS.out.step hb)
  clear hb
  obtain ⟨b01, b02, b03, b04, b05, b06, b07, b08⟩ := HS.out.facts w.heap.size (#[.slice (some ⟨gp, 0, none⟩) 2 cp, .int .i64 0, .slice none 0 0, .bool false, .slice none 0 0]) 62 (by simp)
  go_wp2_with fail
  refine (there66 gp cp id _ h0 h1).mono ?_
  rintro e w2 ⟨rfl, hb⟩
  replace HS := Hd.mk (HS.out.step hb)
  clear hb b01 b02 b03 b04 b05 b06 b07 b08
  obtain ⟨b01, b02, b03, b04, b05, b06, b07, b08⟩ := HS.out.facts w.heap.size (#[.slice (some ⟨gp, 0, none⟩) 2 cp, .int .i64 0, .slice none 0 0, .bool false, .slice none 0 0]) 62 (by simp)
  go_wp2_with fail
  go_ret
  exact ⟨rfl, HS.out.below⟩
set_option maxRecDepth 100000 in
theorem read147 (gp cp : Nat) (id : Int) (w : World) (hd : DevC w gp) (h0 : 0 ≤ id) (h1 : id ≤ 1) : Calls Tryz.prog 147 #[.agg #[.slice (some ⟨gp, 0, none⟩) 2 cp, .int .i64 0, .slice none 0 0, .bool false, .slice none 0 0], .int .i64 id] w (Gives (.tuple #[.string blankS, .int .i64 0]) w) := by
  have HD := Hd.mk hd
  clear hd
  have HS := Hd.mk ((Pre.nil w).alloc (#[.slice (some ⟨gp, 0, none⟩) 2 cp, .int .i64 0, .slice none 0 0, .bool false, .slice none 0 0]) 62 w.heap.size (by simp))
  obtain rfl | rfl := two h0 h1
  all_goals
    go_enter Tryz.func147, Tryz.ntmps147
    go_wp2_with fail
    refine (usable173 gp cp _ _ (HD.out.step HS.out.below) (by omega) (by omega)).mono ?_
    rintro e w1 ⟨rfl, hb⟩
    replace HS := Hd.mk (HS.out.step hb)
    clear hb
    obtain ⟨b01, b02, b03, b04, b05, b06, b07, b08⟩ := HS.out.facts w.heap.size (#[.slice (some ⟨gp, 0, none⟩) 2 cp, .int .i64 0, .slice none 0 0, .bool false, .slice none 0 0]) 62 (by simp)
    go_wp2_with fail
    refine (has174 _ _).mono ?_
    rintro e w2 ⟨rfl, hb⟩
    replace HS := Hd.mk (HS.out.step hb)
    clear hb b01 b02 b03 b04 b05 b06 b07 b08
    obtain ⟨b01, b02, b03, b04, b05, b06, b07, b08⟩ := HS.out.facts w.heap.size (#[.slice (some ⟨gp, 0, none⟩) 2 cp, .int .i64 0, .slice none 0 0, .bool false, .slice none 0 0]) 62 (by simp)
    obtain ⟨c5, c0, c1⟩ := HD.out.step HS.out.below
    go_wp2_with fail
    go_ret2
    exact ⟨rfl, HS.out.below⟩
set_option maxRecDepth 100000 in
theorem there200 (gr : Nat) (id : Int) (w : World) (h0 : 0 ≤ id) (h1 : id ≤ 1) : Calls Tryz.prog 200 #[.agg #[.slice (some ⟨gr, 0, none⟩) 2 2], .int .i64 id] w (Gives (.bool true) w) := by
  have HS := Hd.mk ((Pre.nil w).alloc (#[.slice (some ⟨gr, 0, none⟩) 2 2]) 54 w.heap.size (by simp))
  obtain rfl | rfl := two h0 h1
  all_goals
    go_enter Tryz.func200, Tryz.ntmps200
    go_wp2_with fail
    go_ret
    exact ⟨rfl, HS.out.below⟩
theorem named166 (id : Int) (w : World) (h0 : 0 ≤ id) (h1 : id ≤ 1) : Calls Tryz.prog 166 #[.int .i64 id] w (Gives (.bool true) w) := by
  obtain rfl | rfl := two h0 h1
  all_goals
    go_enter Tryz.func166, Tryz.ntmps166
    go_wp2_with fail
    go_ret
    exact ⟨rfl, Below.refl _ _⟩
end Go.Proofs.YtcjmejokgoefkaaGreat
