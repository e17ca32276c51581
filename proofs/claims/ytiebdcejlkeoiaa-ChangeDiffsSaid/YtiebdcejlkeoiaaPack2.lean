/- Pairs of pages (type 55) and slices of them (56): made, stored, read. -/
import Derived.Test.YtiebdcejlkeoiaaPack
namespace Go.Proofs.Ytiebdcejlkeoiaa
open Go.RowKit
set_option linter.unusedSimpArgs false
set_option linter.unusedVariables false

@[irreducible] def ppA (p q : Pg) : Array Value := pgA p ++ pgA q
theorem ppA_size (p q : Pg) : (ppA p q).size = 68 := by unfold ppA; simp [pgA_size]
theorem ppA_one (p q : Pg) : (ppA p q).all (·.oneCell') = true := by
  unfold ppA; rw [Array.all_append, pgA_one, pgA_one]; rfl
@[go_sem ↓ high] theorem ldv55 (a : Addr) : loadVar 55 a = ldv 55 a := ldv_eq 55 a
@[go_sem ↓ high] theorem stv55 (a : Addr) (v : Value) : storeVar 55 a v = stv 55 a v := stv_eq 55 a v
@[go_sem ↓ high] theorem bld55 (parts : Array (Nat × Value)) : Instr.build 55 parts = bld 55 parts := bld_eq 55 parts
@[go_sem ↓ high] theorem run_zero55 (w : World) : (zeroValue 55).run Try.prog w = .ok (.agg (ppA zPg zPg)) w := by unfold ppA pgA; kernel_rfl
@[go_sem] theorem run_bld55 (w : World) (p q : Pg) : (bld 55 #[(0, .agg (pgA p)), (1, .agg (pgA q))]).run Try.prog w = .ok (.agg (ppA p q)) w := by
  rw [← bld_eq]; unfold ppA pgA; kernel_rfl
theorem info55 : (Try.prog.info? 55).map (·.size) = some 68 := by kernel_rfl
def IsPP (c : Array Value) : Prop := ∃ p q, c = ppA p q
@[go_sem] theorem isPP_ppA (p q : Pg) : IsPP (ppA p q) := ⟨p, q, rfl⟩
@[go_sem] theorem run_storeVar55 (w : World) (g : Nat) (p q : Pg) (h : IsPP (rowAt w g)) (hf : live w g = true) :
    (stv 55 ⟨g, 0, none⟩ (.agg (ppA p q))).run Try.prog w = .ok () (w.setRow g (ppA p q)) := by
  rw [← stv_eq]
  obtain ⟨t, hh⟩ := heap_of_live hf
  refine run_storeVar_row w g t 55 _ _ hh (by rw [info55, ppA_size]) ?_ (ppA_one p q)
  obtain ⟨p', q', hq⟩ := h
  rw [hq, ppA_size, ppA_size]
theorem ppA_0 (p q : Pg) (j : Nat) (h : j < 34) : (ppA p q)[j]? = (pgA p)[j]? := by
  unfold ppA; rw [Array.getElem?_append_left (by rw [pgA_size]; exact h)]
theorem ppA_1 (p q : Pg) (j : Nat) (h : j < 34) : (ppA p q)[34 + j]? = (pgA q)[j]? := by
  unfold ppA; rw [Array.getElem?_append_right (by rw [pgA_size]; omega), pgA_size]; congr 1; omega
/-- A page in the middle of a block. -/
theorem run_ldPg {w : World} {g o : Nat} {p : Pg} (h : ∀ j, j < 34 → w.cell? ⟨g, o + j, none⟩ = (pgA p)[j]?) : (ldv 27 ⟨g, o, none⟩).run Try.prog w = .ok (.agg (pgA p)) w := by
  rw [← ldv_eq]
  have := run_loadVar_mid (P := Try.prog) w g o 27 (pgA p).toList _ (fun j v hj => by
    have hjl : j < 34 := by
      have := (List.getElem?_eq_some_iff.1 hj).1
      simpa [pgA_size] using this
    rw [h j hjl]
    simpa using hj) Try.underlying27 rfl (by rw [info27]; simp [pgA_size])
  simpa using this
theorem run_ldP0 {w : World} {g : Nat} {p q : Pg} (h : ∀ o, w.cell? ⟨g, o, none⟩ = (ppA p q)[o]?) : (ldv 27 ⟨g, 0, none⟩).run Try.prog w = .ok (.agg (pgA p)) w :=
  run_ldPg fun j hj => by rw [h, Nat.zero_add, ppA_0 p q j hj]
theorem run_ldP1 {w : World} {g : Nat} {p q : Pg} (h : ∀ o, w.cell? ⟨g, o, none⟩ = (ppA p q)[o]?) : (ldv 27 ⟨g, 34, none⟩).run Try.prog w = .ok (.agg (pgA q)) w :=
  run_ldPg fun j hj => by rw [h, ppA_1 p q j hj]
@[irreducible] def ppsA (a0 b0 a1 b1 a2 b2 a3 b3 : Pg) : Array Value := ppA a0 b0 ++ ppA a1 b1 ++ ppA a2 b2 ++ ppA a3 b3
@[go_sem ↓ high] theorem bsl56 (n : Nat) (parts : Array (Nat × Value)) : Instr.buildSlice 56 n parts = bsl 56 n parts := bsl_eq _ _ _
@[go_sem] theorem run_bsl56 (w : World) (a0 b0 a1 b1 a2 b2 a3 b3 : Pg) : (bsl 56 4 #[(0, .agg (ppA a0 b0)), (1, .agg (ppA a1 b1)), (2, .agg (ppA a2 b2)), (3, .agg (ppA a3 b3))]).run Try.prog w
   = .ok (.slice (some ⟨w.heap.size, 0, none⟩) 4 4) (w.alloc (.cells (ppsA a0 b0 a1 b1 a2 b2 a3 b3) 55)) := by
  rw [← bsl_eq]
  unfold ppsA ppA pgA
  kernel_rfl
def pgAt2 (a0 b0 a1 b1 a2 b2 a3 b3 : Pg) : Nat → Pg × Pg | 0 => (a0, b0) | 1 => (a1, b1) | 2 => (a2, b2) | _ => (a3, b3)
set_option maxRecDepth 20000 in
theorem ppsA_at (a0 b0 a1 b1 a2 b2 a3 b3 : Pg) (k j : Nat) (hk : k < 4) (hj : j < 68) : (ppsA a0 b0 a1 b1 a2 b2 a3 b3)[k * 68 + j]? = (ppA (pgAt2 a0 b0 a1 b1 a2 b2 a3 b3 k).1 (pgAt2 a0 b0 a1 b1 a2 b2 a3 b3 k).2)[j]? := by
  unfold ppsA
  rcases k with _ | _ | _ | _ | k
  · rw [Array.getElem?_append_left (by simp only [Array.size_append, ppA_size]; omega), Array.getElem?_append_left (by simp only [Array.size_append, ppA_size]; omega), Array.getElem?_append_left (by simp only [Array.size_append, ppA_size]; omega)]
    simp only [pgAt2]; congr 1; omega
  · rw [Array.getElem?_append_left (by simp only [Array.size_append, ppA_size]; omega), Array.getElem?_append_left (by simp only [Array.size_append, ppA_size]; omega), Array.getElem?_append_right (by simp only [Array.size_append, ppA_size]; omega)]
    simp only [pgAt2, ppA_size]; congr 1; omega
  · rw [Array.getElem?_append_left (by simp only [Array.size_append, ppA_size]; omega), Array.getElem?_append_right (by simp only [Array.size_append, ppA_size]; omega)]
    simp only [pgAt2, Array.size_append, ppA_size]; congr 1; omega
  · rw [Array.getElem?_append_right (by simp only [Array.size_append, ppA_size]; omega)]
    simp only [pgAt2, Array.size_append, ppA_size]; congr 1; omega
  · exfalso; omega
theorem run_ld55 {w : World} {g k : Nat} {a0 b0 a1 b1 a2 b2 a3 b3 : Pg} (h : ∀ o, w.cell? ⟨g, o, none⟩ = (ppsA a0 b0 a1 b1 a2 b2 a3 b3)[o]?) (hk : k < 4) :
    (ldv 55 ⟨g, k * 68, none⟩).run Try.prog w = .ok (.agg (ppA (pgAt2 a0 b0 a1 b1 a2 b2 a3 b3 k).1 (pgAt2 a0 b0 a1 b1 a2 b2 a3 b3 k).2)) w := by
  rw [← ldv_eq]
  have := run_loadVar_mid (P := Try.prog) w g (k * 68) 55 (ppA (pgAt2 a0 b0 a1 b1 a2 b2 a3 b3 k).1 (pgAt2 a0 b0 a1 b1 a2 b2 a3 b3 k).2).toList _ (fun j v hj => by
    have hjl : j < 68 := by
      have := (List.getElem?_eq_some_iff.1 hj).1
      simpa [ppA_size] using this
    rw [h, ppsA_at _ _ _ _ _ _ _ _ k j hk hjl]
    simpa using hj) Try.underlying55 rfl (by rw [info55]; simp [ppA_size])
  simpa using this
end Go.Proofs.Ytiebdcejlkeoiaa
