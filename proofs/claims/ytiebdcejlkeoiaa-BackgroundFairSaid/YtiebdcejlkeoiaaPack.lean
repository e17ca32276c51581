/- Slices of pairs of changes and of pages, made and read. -/
import Derived.Test.YtiebdcejlkeoiaaOdd
import Derived.Test.YtiebdcejlkeoiaaEq
namespace Go.Proofs.Ytiebdcejlkeoiaa
open Go.RowKit
set_option linter.unusedSimpArgs false
set_option linter.unusedVariables false

/-! ### buildSlice, kept shut -/
@[irreducible] def bsl (t : TypeId) (n : Nat) (parts : Array (Nat × Value)) : Sem Value := Instr.buildSlice t n parts
theorem bsl_eq (t : TypeId) (n : Nat) (parts : Array (Nat × Value)) : Instr.buildSlice t n parts = bsl t n parts := by unfold bsl; rfl
@[go_sem ↓ high] theorem bsl45 (n : Nat) (parts : Array (Nat × Value)) : Instr.buildSlice 45 n parts = bsl 45 n parts := bsl_eq _ _ _
@[go_sem ↓ high] theorem bsl38 (n : Nat) (parts : Array (Nat × Value)) : Instr.buildSlice 38 n parts = bsl 38 n parts := bsl_eq _ _ _

@[irreducible] def pgsA (p q r : Pg) : Array Value := pgA p ++ pgA q ++ pgA r
@[go_sem] theorem run_bsl45 (w : World) (p q r : Pg) : (bsl 45 3 #[(0, .agg (pgA p)), (1, .agg (pgA q)), (2, .agg (pgA r))]).run Try.prog w = .ok (.slice (some ⟨w.heap.size, 0, none⟩) 3 3) (w.alloc (.cells (pgsA p q r) 27)) := by
  rw [← bsl_eq]
  unfold pgsA pgA
  kernel_rfl

def ch6 (x : Ch) : List Value := [.int .i64 x.page, .int .i64 x.slot, .bool x.before.set, .string x.before.data, .bool x.after.set, .string x.after.data]
@[irreducible] def zsA (a0 b0 a1 b1 a2 b2 a3 b3 : Ch) : Array Value := (ch6 a0 ++ ch6 b0 ++ ch6 a1 ++ ch6 b1 ++ ch6 a2 ++ ch6 b2 ++ ch6 a3 ++ ch6 b3).toArray
set_option maxRecDepth 20000 in
@[go_sem] theorem run_bsl38 (w : World) (a0 b0 a1 b1 a2 b2 a3 b3 : Ch) : (bsl 38 4 #[
  (0, .agg #[.int .i64 a0.page, .int .i64 a0.slot, .bool a0.before.set, .string a0.before.data, .bool a0.after.set, .string a0.after.data, .int .i64 b0.page, .int .i64 b0.slot, .bool b0.before.set, .string b0.before.data, .bool b0.after.set, .string b0.after.data]),
  (1, .agg #[.int .i64 a1.page, .int .i64 a1.slot, .bool a1.before.set, .string a1.before.data, .bool a1.after.set, .string a1.after.data, .int .i64 b1.page, .int .i64 b1.slot, .bool b1.before.set, .string b1.before.data, .bool b1.after.set, .string b1.after.data]),
  (2, .agg #[.int .i64 a2.page, .int .i64 a2.slot, .bool a2.before.set, .string a2.before.data, .bool a2.after.set, .string a2.after.data, .int .i64 b2.page, .int .i64 b2.slot, .bool b2.before.set, .string b2.before.data, .bool b2.after.set, .string b2.after.data]),
  (3, .agg #[.int .i64 a3.page, .int .i64 a3.slot, .bool a3.before.set, .string a3.before.data, .bool a3.after.set, .string a3.after.data, .int .i64 b3.page, .int .i64 b3.slot, .bool b3.before.set, .string b3.before.data, .bool b3.after.set, .string b3.after.data])]).run Try.prog w
   = .ok (.slice (some ⟨w.heap.size, 0, none⟩) 4 4) (w.alloc (.cells (zsA a0 b0 a1 b1 a2 b2 a3 b3) 36)) := by
  rw [← bsl_eq]
  unfold zsA
  kernel_rfl

/-- The element k of the four pairs, and of the three pages. -/
def zAt (a0 b0 a1 b1 a2 b2 a3 b3 : Ch) : Nat → Ch × Ch | 0 => (a0, b0) | 1 => (a1, b1) | 2 => (a2, b2) | _ => (a3, b3)
def pAt (p q r : Pg) : Nat → Pg | 0 => p | 1 => q | _ => r
theorem zsA_at (a0 b0 a1 b1 a2 b2 a3 b3 : Ch) (k j : Nat) (hk : k < 4) (hj : j < 12) : (zsA a0 b0 a1 b1 a2 b2 a3 b3)[k * 12 + j]? = (ch6 (zAt a0 b0 a1 b1 a2 b2 a3 b3 k).1 ++ ch6 (zAt a0 b0 a1 b1 a2 b2 a3 b3 k).2)[j]? := by
  unfold zsA ch6
  rcases k with _ | _ | _ | _ | k <;> first | (exfalso; omega) | (rcases j with _ | _ | _ | _ | _ | _ | _ | _ | _ | _ | _ | _ | j <;> first | (exfalso; omega) | rfl)
theorem pgsA_at (p q r : Pg) (k j : Nat) (hk : k < 3) (hj : j < 34) : (pgsA p q r)[k * 34 + j]? = (pgA (pAt p q r k))[j]? := by
  unfold pgsA
  have s1 := pgA_size p
  have s2 := pgA_size q
  rcases k with _ | _ | _ | k
  · simp only [pAt, Nat.zero_mul, Nat.zero_add]
    rw [Array.getElem?_append_left (by simp; omega), Array.getElem?_append_left (by omega)]
  · simp only [pAt, Nat.zero_add, Nat.one_mul]
    rw [Array.getElem?_append_left (by simp; omega), Array.getElem?_append_right (by omega), s1, Nat.add_sub_cancel_left]
  · simp only [pAt]
    rw [Array.getElem?_append_right (by simp; omega)]
    congr 1
    simp; omega
  · exfalso; omega

@[go_sem ↓ high] theorem ldv36 (a : Addr) : loadVar 36 a = ldv 36 a := ldv_eq 36 a
theorem info36 : (Try.prog.info? 36).map (·.size) = some 12 := by kernel_rfl
theorem run_ld36 {w : World} {g k : Nat} {a0 b0 a1 b1 a2 b2 a3 b3 : Ch} (h : ∀ o, w.cell? ⟨g, o, none⟩ = (zsA a0 b0 a1 b1 a2 b2 a3 b3)[o]?) (hk : k < 4) :
    (ldv 36 ⟨g, k * 12, none⟩).run Try.prog w = .ok (.agg (ch6 (zAt a0 b0 a1 b1 a2 b2 a3 b3 k).1 ++ ch6 (zAt a0 b0 a1 b1 a2 b2 a3 b3 k).2).toArray) w := by
  rw [← ldv_eq]
  refine run_loadVar_mid (P := Try.prog) w g (k * 12) 36 (ch6 (zAt a0 b0 a1 b1 a2 b2 a3 b3 k).1 ++ ch6 (zAt a0 b0 a1 b1 a2 b2 a3 b3 k).2) _ (fun j v hj => ?_) Try.underlying36 rfl (by rw [info36]; rfl)
  have hjl : j < 12 := by
    have := (List.getElem?_eq_some_iff.1 hj).1
    simpa [ch6] using this
  rw [h, zsA_at _ _ _ _ _ _ _ _ k j hk hjl, hj]
theorem run_ld27 {w : World} {g k : Nat} {p q r : Pg} (h : ∀ o, w.cell? ⟨g, o, none⟩ = (pgsA p q r)[o]?) (hk : k < 3) :
    (ldv 27 ⟨g, k * 34, none⟩).run Try.prog w = .ok (.agg (pgA (pAt p q r k))) w := by
  rw [← ldv_eq]
  have := run_loadVar_mid (P := Try.prog) w g (k * 34) 27 (pgA (pAt p q r k)).toList _ (fun j v hj => by
    have hjl : j < 34 := by
      have := (List.getElem?_eq_some_iff.1 hj).1
      simpa [pgA_size] using this
    rw [h, pgsA_at p q r k j hk hjl]
    simpa using hj) Try.underlying27 rfl (by rw [info27]; simp [pgA_size])
  simpa using this
/-- A change in the middle of a block. -/
theorem run_ld29 {w : World} {g o : Nat} {x : Ch} (h : ∀ j, j < 6 → w.cell? ⟨g, o + j, none⟩ = (ch6 x)[j]?) : (ldv 29 ⟨g, o, none⟩).run Try.prog w = .ok (.agg #[.int .i64 x.page, .int .i64 x.slot, .bool x.before.set, .string x.before.data, .bool x.after.set, .string x.after.data]) w := by
  rw [← ldv_eq]
  refine run_loadVar_mid (P := Try.prog) w g o 29 (ch6 x) _ (fun j v hj => ?_) Try.underlying29 rfl (by rw [info29]; rfl)
  have hjl : j < 6 := by
    have := (List.getElem?_eq_some_iff.1 hj).1
    simpa [ch6] using this
  rw [h j hjl, hj]
end Go.Proofs.Ytiebdcejlkeoiaa
