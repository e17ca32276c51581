/- Pages and rows of cells compared with '=='; the row of a page's cells as a value. -/
import Derived.Test.YtcjmejokgoefkaaGreatBase
import Derived.DeepKeys
import Derived.Deep.MidRow
namespace Go.Proofs.YtcjmejokgoefkaaGreat
open Go.RowKit
set_option linter.unusedSimpArgs false

theorem eq24 (w : World) (d : Nat) (a b : Bool) (x y : ByteArray) : (Op.equalIn (d + 2) 29 (.agg #[.bool a, .string x]) (.agg #[.bool b, .string y])).run Tryz.prog w = .ok (a == b && x.toList == y.toList) w := by
  simp [go_sem]
  by_cases h : a = b <;> by_cases h2 : x.toList = y.toList <;> simp [h, h2]

@[irreducible] def clA (f : Nat → Cl) : Array Value := #[ .bool (f 0).set, .string (f 0).data, .bool (f 1).set, .string (f 1).data, .bool (f 2).set, .string (f 2).data, .bool (f 3).set, .string (f 3).data,
  .bool (f 4).set, .string (f 4).data, .bool (f 5).set, .string (f 5).data, .bool (f 6).set, .string (f 6).data, .bool (f 7).set, .string (f 7).data,
  .bool (f 8).set, .string (f 8).data, .bool (f 9).set, .string (f 9).data, .bool (f 10).set, .string (f 10).data, .bool (f 11).set, .string (f 11).data,
  .bool (f 12).set, .string (f 12).data, .bool (f 13).set, .string (f 13).data, .bool (f 14).set, .string (f 14).data, .bool (f 15).set, .string (f 15).data]

theorem part25 (p : Pg) (w : World) : (part 30 (pgA p) 2).run Tryz.prog w = .ok (.agg (clA p.cell)) w := by
  unfold pgA clA
  kernel_rfl
theorem part24 (f : Nat → Cl) (i : Nat) (h : i < 16) (w : World) : (part 29 (clA f) (i * 2)).run Tryz.prog w = .ok (.agg #[.bool (f i).set, .string (f i).data]) w := by
  unfold clA
  rcases i with _|_|_|_|_|_|_|_|_|_|_|_|_|_|_|_|i <;> first | (exfalso; omega) | kernel_rfl

def clsEq (f g : Nat → Cl) : Bool := (List.range 16).all fun i => clEq (f i) (g i)
theorem items24 (w : World) (d : Nat) (f g : Nat → Cl) : ∀ is : List Nat, (∀ i ∈ is, i < 16) → (Op.eqItems (d + 2) 29 2 (clA f) (clA g) is).run Tryz.prog w = .ok (is.all fun i => clEq (f i) (g i)) w
  | [], _ => by simp [Op.eqItems]
  | i :: is, h => by
    have hi := h i (by simp)
    have ih := items24 w d f g is (fun j hj => h j (by simp [hj]))
    simp only [Op.eqItems, Sem.run_bind, part24 f i hi, part24 g i hi, Result.andThen_ok, eq24]
    cases hc : ((f i).set == (g i).set && (f i).data.toList == (g i).data.toList) with
    | false => simp [clEq, hc]
    | true => simp [clEq, hc, ih]
theorem cells24 : Tryz.prog.cellsOf 29 = 2 := by kernel_rfl
theorem info24 : ∃ i, Tryz.prog.info? 29 = some i := Option.isSome_iff_exists.1 (by kernel_rfl)
theorem eq25 (w : World) (d : Nat) (f g : Nat → Cl) : (Op.equalIn (d + 3) 30 (.agg (clA f)) (.agg (clA g))).run Tryz.prog w = .ok (clsEq f g) w := by
  obtain ⟨i, hi⟩ := info24
  rw [run_equalIn_array w (d + 2) _ _ Tryz.underlying30 hi, cells24]
  exact items24 w d f g _ (fun i hi => by simpa using hi)
def pgEq (p q : Pg) : Bool := p.id == q.id && (p.lsn == q.lsn && clsEq p.cell q.cell)
theorem eq27 (w : World) (d : Nat) (p q : Pg) : (Op.equalIn (d + 4) 32 (.agg (pgA p)) (.agg (pgA q))).run Tryz.prog w = .ok (pgEq p q) w := by
  rw [run_equalIn_struct w (d + 3) 32 _ _ (by kernel_rfl) (by kernel_rfl)]
  have hf : (Tryz.prog.fieldsOf 32).toList.map (fun f => (f.name, f.type, f.offset)) = [("ID", 3, 0), ("LSN", 3, 1), ("Cells", 30, 2)] := by kernel_rfl
  generalize (Tryz.prog.fieldsOf 32).toList = fs at hf
  have hlen : fs.length = 3 := by simpa using congrArg List.length hf
  obtain ⟨a, b, c, rfl⟩ : ∃ a b c, fs = [a, b, c] := by
    rcases fs with _ | ⟨a, _ | ⟨b, _ | ⟨c, _ | ⟨d, r⟩⟩⟩⟩
    case cons.cons.cons.nil => exact ⟨a, b, c, rfl⟩
    all_goals simp at hlen
  simp only [List.map_cons, List.map_nil, List.cons.injEq, Prod.mk.injEq, and_true] at hf
  obtain ⟨⟨n1, t1, o1⟩, ⟨n2, t2, o2⟩, ⟨n3, t3, o3⟩⟩ := hf
  have p0 : ∀ r : Pg, (part 3 (pgA r) 0).run Tryz.prog w = .ok (.int .i64 r.id) w := fun r => by unfold pgA; kernel_rfl
  have p1 : ∀ r : Pg, (part 3 (pgA r) 1).run Tryz.prog w = .ok (.int .i64 r.lsn) w := fun r => by unfold pgA; kernel_rfl
  have q1 : ("ID" ≠ "_") = True := by decide
  have q2 : ("LSN" ≠ "_") = True := by decide
  have q3 : ("Cells" ≠ "_") = True := by decide
  simp only [Op.eqFields, n1, n2, n3, t1, t2, t3, o1, o2, o3, q1, q2, q3, if_true, Sem.run_bind, p0, p1, part25, Result.andThen_ok, run_equalIn_int w _ 3 .i64 .i64 _ _ Tryz.underlying3, Sem.run_ite, eq25 w d, Sem.run_pure]
  unfold pgEq
  cases h1 : (p.id == q.id) <;> cases h2 : (p.lsn == q.lsn) <;> cases h3 : clsEq p.cell q.cell <;> simp

theorem clEq_refl (a : Cl) : clEq a a = true := by simp [clEq]
theorem clsEq_refl (f : Nat → Cl) : clsEq f f = true := by simp [clsEq, clEq_refl]
theorem pgEq_refl (p : Pg) : pgEq p p = true := by simp [pgEq, clsEq_refl]

/-! ### as the walk meets them -/
@[irreducible] def bop (op : BinOp) (t : TypeId) (x y : Value) : Sem Value := binOp op t x y
theorem bop_eq (op : BinOp) (t : TypeId) (x y : Value) : binOp op t x y = bop op t x y := by unfold bop; rfl
@[go_sem ↓ high] theorem bop27e (x y : Value) : binOp .eql 32 x y = bop .eql 32 x y := bop_eq _ _ _ _
@[go_sem ↓ high] theorem bop27n (x y : Value) : binOp .neq 32 x y = bop .neq 32 x y := bop_eq _ _ _ _
@[go_sem ↓ high] theorem bop25e (x y : Value) : binOp .eql 30 x y = bop .eql 30 x y := bop_eq _ _ _ _
@[go_sem] theorem run_bop27e (w : World) (p q : Pg) : (bop .eql 32 (.agg (pgA p)) (.agg (pgA q))).run Tryz.prog w = .ok (.bool (pgEq p q)) w := by
  rw [← bop_eq, run_eql_struct, eq27 w 9996]; rfl
@[go_sem] theorem run_bop27n (w : World) (p q : Pg) : (bop .neq 32 (.agg (pgA p)) (.agg (pgA q))).run Tryz.prog w = .ok (.bool (!pgEq p q)) w := by
  rw [← bop_eq, run_neq_struct, eq27 w 9996]; rfl
@[go_sem] theorem run_bop25e (w : World) (f g : Nat → Cl) : (bop .eql 30 (.agg (clA f)) (.agg (clA g))).run Tryz.prog w = .ok (.bool (clsEq f g)) w := by
  rw [← bop_eq, run_eql_struct, eq25 w 9997]; rfl

/-! ### the cells of a page, read as one value -/
@[go_sem ↓ high] theorem ldv25 (a : Addr) : loadVar 30 a = ldv 30 a := ldv_eq 30 a
theorem info25 : (Tryz.prog.info? 30).map (·.size) = some 32 := by kernel_rfl
theorem clA_of_pgA (p : Pg) (j : Nat) (h : j < 32) : (pgA p)[2 + j]? = (clA p.cell)[j]? := by
  unfold pgA clA
  rcases j with _|_|_|_|_|_|_|_|_|_|_|_|_|_|_|_|_|_|_|_|_|_|_|_|_|_|_|_|_|_|_|_|j <;> first | rfl | (exfalso; omega)
theorem clA_size (f : Nat → Cl) : (clA f).size = 32 := by unfold clA; rfl
theorem run_ld25 (w : World) (g : Nat) (p : Pg) (h : rowAt w g = pgA p) : (ldv 30 ⟨g, 2, none⟩).run Tryz.prog w = .ok (.agg (clA p.cell)) w := by
  rw [← ldv_eq]
  have h' : IsPg (rowAt w g) := ⟨p, h⟩
  obtain ⟨t, fr, hh⟩ := heap_of_rowAt h'
  rw [h] at hh
  have := run_loadVar_mid (P := Tryz.prog) w g 2 30 (clA p.cell).toList _ (fun j v hj => by
    rw [cell_of_row w g (2 + j) _ t fr hh]
    have hjl : j < 32 := by
      have := (List.getElem?_eq_some_iff.1 hj).1
      simpa [clA_size] using this
    rw [clA_of_pgA p j hjl]
    simpa using hj) Tryz.underlying30 rfl (by rw [info25]; simp [clA_size])
  simpa using this
end Go.Proofs.YtcjmejokgoefkaaGreat
