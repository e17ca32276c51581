import Derived.Test.YtcjmejokgoefkaaGreatW28
import Derived.Test.YtcjmejokgoefkaaGreatEq
namespace Go.Proofs.YtcjmejokgoefkaaGreat
open Go.RowKit
set_option linter.unusedSimpArgs false
set_option linter.unusedVariables false
/-! ### rows of cells, and their differences -/
def zR : Nat → Cl := fun _ => zCl
theorem caA_eq : caA = clA zR := by unfold caA clA; rfl
def flatR (fs : List (Nat → Cl)) : List Value := fs.flatMap fun f => (clA f).toList
theorem clA_len (f : Nat → Cl) : (clA f).toList.length = 32 := by rw [Array.length_toList, clA_size]
theorem flatR_len (fs : List (Nat → Cl)) : (flatR fs).length = fs.length * 32 := by
  induction fs with
  | nil => rfl
  | cons f fs ih =>
    rw [show flatR (f :: fs) = (clA f).toList ++ flatR fs from List.flatMap_cons, List.length_append, clA_len, ih, List.length_cons]
    omega
theorem flatR_snoc (fs : List (Nat → Cl)) (f : Nat → Cl) : flatR (fs ++ [f]) = flatR fs ++ (clA f).toList := by simp [flatR]
def rowL (fs : List (Nat → Cl)) (k : Nat) : Nat → Cl := fs.getD k zR
theorem flatR_get : ∀ (fs : List (Nat → Cl)) (i j : Nat), i < fs.length → j < 32 → (flatR fs)[32 * i + j]? = (clA (rowL fs i))[j]?
  | [], i, j, hi, _ => by simp at hi
  | f :: fs, 0, j, _, hj => by
    rw [show flatR (f :: fs) = (clA f).toList ++ flatR fs from List.flatMap_cons, List.getElem?_append_left (by rw [clA_len]; omega)]
    simp [rowL]
  | f :: fs, i + 1, j, hi, hj => by
    have ih := flatR_get fs i j (by simpa using hi) hj
    rw [show flatR (f :: fs) = (clA f).toList ++ flatR fs from List.flatMap_cons, List.getElem?_append_right (by rw [clA_len]; omega), clA_len, show 32 * (i + 1) + j - 32 = 32 * i + j by omega, ih]
    simp [rowL]
theorem clA_one (f : Nat → Cl) : One (clA f) := by unfold One clA; simp [Value.oneCell']
theorem clA_oneL (f : Nat → Cl) : ∀ u ∈ (clA f).toList, u.oneCell' = true := by
  have h : (clA f).all (·.oneCell') = true := clA_one f
  rw [Array.all_eq_true'] at h
  intro u hu
  exact h u (Array.mem_def.2 hu)
attribute [go_sem] clA_one clA_size
theorem clA_s (f : Nat → Cl) (i : Nat) (h : i < 16) : (clA f)[i * 2]? = some (.bool (f i).set) := by
  unfold clA
  rcases i with _|_|_|_|_|_|_|_|_|_|_|_|_|_|_|_|i <;> first | rfl | omega
theorem clA_d (f : Nat → Cl) (i : Nat) (h : i < 16) : (clA f)[i * 2 + 1]? = some (.string (f i).data) := by
  unfold clA
  rcases i with _|_|_|_|_|_|_|_|_|_|_|_|_|_|_|_|i <;> first | rfl | omega
/-- A slice of rows, wherever it lies. -/
def RowsAt (w : World) (v : Value) (fs : List (Nat → Cl)) : Prop := w.ownsRow 0 30 32 v fs.length (flatR fs)
theorem RowsAt.form {w : World} {v : Value} {fs : List (Nat → Cl)} (h : RowsAt w v fs) : ∃ a cap, v = .slice a fs.length cap ∧ (fs.length = 0 ∨ ∃ g, a = some ⟨g, 0, none⟩) := by
  rcases h.2 with ⟨rfl, h0⟩ | ⟨g, cap, cur, rfl, _⟩
  · exact ⟨none, 0, by rw [h0], .inl h0⟩
  · exact ⟨some ⟨g, 0, none⟩, cap, rfl, .inr ⟨g, rfl⟩⟩
theorem RowsAt.step {w w' : World} {v : Value} {fs : List (Nat → Cl)} (h : RowsAt w v fs) (hb : Below w.heap.size w w') : RowsAt w' v fs :=
  h.kept (row := none) ⟨hb.os, hb.tape, hb.output, hb.size, fun k hk _ => hb.block k hk⟩ (by
    rcases h.2 with ⟨rfl, h0⟩ | ⟨g, cap, cur, rfl, _⟩
    · exact .inl rfl
    · exact .inr (by simp [Value.ownBlock]))
/-! ### whole rows of cells in the walk -/
@[go_sem ↓ high] theorem run_zero30 (w : World) : (zeroValue 30).run Tryz.prog w = .ok (.agg (clA zR)) w := by unfold clA; kernel_rfl
@[go_sem ↓ high] theorem bld30 (parts : Array (Nat × Value)) : Instr.build 30 parts = bld 30 parts := bld_eq 30 parts
@[go_sem] theorem run_bz30 (w : World) : (bld 30 #[]).run Tryz.prog w = .ok (.agg (clA zR)) w := by rw [← bld_eq]; unfold clA; kernel_rfl
@[go_sem ↓ high] theorem stw30 (a : Addr) (v : Value) : storeVar 30 a v = stv 30 a v := stv_eq 30 a v
@[go_sem] theorem run_st30 (w : World) (g : Nat) (f : Nat → Cl) (h : (rowAt w g).size = 32) (hf : live w g = true) : (stv 30 ⟨g, 0, none⟩ (.agg (clA f))).run Tryz.prog w = .ok () (w.setRow g (clA f)) := st_all info30 w g _ (clA_size f) (clA_one f) h hf
@[go_sem] theorem run_ld30w (w : World) (g : Nat) (h : (rowAt w g).size = 32) : (ldv 30 ⟨g, 0, none⟩).run Tryz.prog w = .ok (.agg (rowAt w g)) w := ld_all Tryz.underlying30 rfl info30 w g h
theorem ld_row {w : World} {base g cap : Nat} {fs : List (Nat → Cl)} (h : w.ownsRow base 30 32 (.slice (some ⟨g, 0, none⟩) fs.length cap) fs.length (flatR fs)) (i : Nat) (hi : i < fs.length) :
    (ldv 30 ⟨g, i * 32, none⟩).run Tryz.prog w = .ok (.agg (clA (rowL fs i))) w := by
  obtain ⟨-, h2 | ⟨g', cap', cur, hv, -, hb, -, -, -, hc⟩⟩ := h
  · omega
  · simp only [Value.slice.injEq, Option.some.injEq, Addr.mk.injEq] at hv
    obtain ⟨⟨rfl, -, -⟩, -, -⟩ := hv
    rw [← ldv_eq]
    have := run_loadVar_mid (P := Tryz.prog) w g (i * 32) 30 (clA (rowL fs i)).toList _ (fun j v hj => by
      have hjl : j < 32 := by
        have := (List.getElem?_eq_some_iff.1 hj).1
        rw [clA_len] at this
        exact this
      have h1 := flatR_get fs i j hi hjl
      rw [← Array.getElem?_toList, hj, ← hc, List.getElem?_take] at h1
      split at h1
      · rw [cell_of_row w g (i * 32 + j) _ _ _ hb, ← Array.getElem?_toList, Nat.mul_comm]
        exact h1
      · exact absurd h1 (by simp)) Tryz.underlying30 rfl (by rw [info30, clA_len])
    rw [Array.toArray_toList] at this
    exact this
theorem rowL_out {fs : List (Nat → Cl)} {k : Nat} (h : fs.length ≤ k) : rowL fs k = zR := by unfold rowL; rw [List.getD_eq_getElem?_getD, List.getElem?_eq_none h]; rfl
set_option maxRecDepth 100000 in
theorem at14 (fs : List (Nat → Cl)) (v : Value) (k : Nat) (w : World) (h : RowsAt w v fs) (hl : fs.length ≤ 1000) (hk : k ≤ 1000) : Calls Tryz.prog 14 #[v, .int .i64 (k : Int)] w (Gives (.agg (clA (rowL fs k))) w) := by
  have HS := Hd.mk ((Pre.nil w).alloc (clA zR) 30 w.heap.size rfl)
  by_cases hlt : k < fs.length
  · obtain ⟨a, cap, rfl, h0 | ⟨g, rfl⟩⟩ := h.form
    · omega
    · have h' : RowsAt (w.alloc (.cells (clA zR) 30)) (.slice (some ⟨g, 0, none⟩) fs.length cap) fs := h.step ((Below.refl _ _).alloc (Nat.le_refl _) _)
      have h1 := ld_row h' k hlt
      have q1 : (k : Int) < fs.length := by omega
      have q2 : (0 : Int) ≤ k := by omega
      clear h h'
      go_enter Tryz.func14, Tryz.ntmps14
      go_wp2_with fail
      refine bodyPost_ret (v := .agg (clA (rowL fs k))) (results_c rfl rfl (by simp (maxDischargeDepth := 6) [go_sem])) rfl ⟨rfl, ?_⟩
      exact (Below.refl _ _).alloc (Nat.le_refl _) _
  · rw [rowL_out (by omega)]
    obtain ⟨a, cap, rfl, -⟩ := h.form
    have q1 : decide ((k : Int) < fs.length) = false := by simp; omega
    clear h
    go_enter Tryz.func14, Tryz.ntmps14
    go_wp2_with fail
    refine bodyPost_ret (v := .agg (clA zR)) (results_c rfl rfl (by simp (maxDischargeDepth := 6) [go_sem])) rfl ⟨rfl, ?_⟩
    exact (Below.refl _ _).alloc (Nat.le_refl _) _
end Go.Proofs.YtcjmejokgoefkaaGreat
