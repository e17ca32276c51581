/- The new database of the sanity check, as rows of cells; the walk's rules for whole structs of its types. Printed by gdb.py. -/
import Derived.Test.YtcjmejokgoefkaaGreatSt
import Derived.Deep.MidRow
namespace Go.Proofs.YtcjmejokgoefkaaGreat
open Go.RowKit
set_option linter.unusedSimpArgs false
set_option linter.unusedVariables false

theorem get_of {a : Array Value} {i : Nat} {x : Value} (h : i < a.size) (k : a[i]? = some x) : a[i]'h = x := by rw [Array.getElem?_eq_getElem h] at k; exact Option.some.inj k
def One (a : Array Value) : Prop := a.all (·.oneCell') = true
def OneC (v : Value) : Prop := v.oneCell' = true
@[go_sem] theorem oneI (k : IntKind) (n : Int) : OneC (.int k n) := by unfold OneC; rfl
@[go_sem] theorem oneB (b : Bool) : OneC (.bool b) := by unfold OneC; rfl
@[go_sem] theorem oneS (a : Option Addr) (n c : Nat) : OneC (.slice a n c) := by unfold OneC; rfl
@[go_sem] theorem oneT (s : ByteArray) : OneC (.string s) := by unfold OneC; rfl
@[go_sem] theorem one1 {x0 : Value} (hx0 : OneC x0) : One #[x0] := by unfold OneC at *; simp [One, hx0]
@[go_sem] theorem one2 {x0 x1 : Value} (hx0 : OneC x0) (hx1 : OneC x1) : One #[x0, x1] := by unfold OneC at *; simp [One, hx0, hx1]
@[go_sem] theorem one3 {x0 x1 x2 : Value} (hx0 : OneC x0) (hx1 : OneC x1) (hx2 : OneC x2) : One #[x0, x1, x2] := by unfold OneC at *; simp [One, hx0, hx1, hx2]
@[go_sem] theorem one4 {x0 x1 x2 x3 : Value} (hx0 : OneC x0) (hx1 : OneC x1) (hx2 : OneC x2) (hx3 : OneC x3) : One #[x0, x1, x2, x3] := by unfold OneC at *; simp [One, hx0, hx1, hx2, hx3]
@[go_sem] theorem one5 {x0 x1 x2 x3 x4 : Value} (hx0 : OneC x0) (hx1 : OneC x1) (hx2 : OneC x2) (hx3 : OneC x3) (hx4 : OneC x4) : One #[x0, x1, x2, x3, x4] := by unfold OneC at *; simp [One, hx0, hx1, hx2, hx3, hx4]
@[irreducible] def dbA (gr gp cp gb cb : Nat) : Array Value := #[.int .i64 2, .int .i64 1, .int .i64 1, .slice none 0 0, .int .i64 0, .int .i64 1, .slice none 0 0, .int .i64 0, .slice none 0 0, .slice none 0 0, .slice none 0 0, .slice (some ⟨gr, 0, none⟩) 2 2, .slice none 0 0, .slice (some ⟨gp, 0, none⟩) 2 cp, .int .i64 0, .slice none 0 0, .bool false, .slice none 0 0, .slice (some ⟨gb, 0, none⟩) 1 cb, .int .i64 2, .slice none 0 0, .int .i64 1, .int .i64 1, .slice none 0 0, .int .i64 0, .int .i64 0, .slice none 0 0, .int .i64 0, .bool false, .bool false, .slice none 0 0, .slice none 0 0, .int .i64 2, .int .i64 0, .slice none 0 0, .slice none 0 0, .int .i64 0, .slice none 0 0, .int .i64 1, .int .i64 1, .int .i64 1, .int .i64 1, .int .i64 1, .int .i64 1, .int .i64 1, .int .i64 1, .int .i64 1, .int .i64 0, .slice none 0 0, .int .i64 0]
@[go_sem] theorem dbA_size (gr gp cp gb cb : Nat) : (dbA gr gp cp gb cb).size = 50 := by unfold dbA; rfl
@[go_sem] theorem dbA_one (gr gp cp gb cb : Nat) : One (dbA gr gp cp gb cb) := by unfold One dbA; simp [Value.oneCell']
@[go_sem] theorem dbA_g0 (gr gp cp gb cb : Nat) (h : 0 < (dbA gr gp cp gb cb).size) : (dbA gr gp cp gb cb)[0]'h = .int .i64 2 := get_of h (by unfold dbA; rfl)
@[go_sem] theorem dbA_0 (gr gp cp gb cb : Nat) : (dbA gr gp cp gb cb)[0]? = some (.int .i64 2) := by unfold dbA; rfl
@[go_sem] theorem dbA_g1 (gr gp cp gb cb : Nat) (h : 1 < (dbA gr gp cp gb cb).size) : (dbA gr gp cp gb cb)[1]'h = .int .i64 1 := get_of h (by unfold dbA; rfl)
@[go_sem] theorem dbA_1 (gr gp cp gb cb : Nat) : (dbA gr gp cp gb cb)[1]? = some (.int .i64 1) := by unfold dbA; rfl
@[go_sem] theorem dbA_g2 (gr gp cp gb cb : Nat) (h : 2 < (dbA gr gp cp gb cb).size) : (dbA gr gp cp gb cb)[2]'h = .int .i64 1 := get_of h (by unfold dbA; rfl)
@[go_sem] theorem dbA_2 (gr gp cp gb cb : Nat) : (dbA gr gp cp gb cb)[2]? = some (.int .i64 1) := by unfold dbA; rfl
@[go_sem] theorem dbA_g3 (gr gp cp gb cb : Nat) (h : 3 < (dbA gr gp cp gb cb).size) : (dbA gr gp cp gb cb)[3]'h = .slice none 0 0 := get_of h (by unfold dbA; rfl)
@[go_sem] theorem dbA_3 (gr gp cp gb cb : Nat) : (dbA gr gp cp gb cb)[3]? = some (.slice none 0 0) := by unfold dbA; rfl
@[go_sem] theorem dbA_g4 (gr gp cp gb cb : Nat) (h : 4 < (dbA gr gp cp gb cb).size) : (dbA gr gp cp gb cb)[4]'h = .int .i64 0 := get_of h (by unfold dbA; rfl)
@[go_sem] theorem dbA_4 (gr gp cp gb cb : Nat) : (dbA gr gp cp gb cb)[4]? = some (.int .i64 0) := by unfold dbA; rfl
@[go_sem] theorem dbA_g5 (gr gp cp gb cb : Nat) (h : 5 < (dbA gr gp cp gb cb).size) : (dbA gr gp cp gb cb)[5]'h = .int .i64 1 := get_of h (by unfold dbA; rfl)
@[go_sem] theorem dbA_5 (gr gp cp gb cb : Nat) : (dbA gr gp cp gb cb)[5]? = some (.int .i64 1) := by unfold dbA; rfl
@[go_sem] theorem dbA_g6 (gr gp cp gb cb : Nat) (h : 6 < (dbA gr gp cp gb cb).size) : (dbA gr gp cp gb cb)[6]'h = .slice none 0 0 := get_of h (by unfold dbA; rfl)
@[go_sem] theorem dbA_6 (gr gp cp gb cb : Nat) : (dbA gr gp cp gb cb)[6]? = some (.slice none 0 0) := by unfold dbA; rfl
@[go_sem] theorem dbA_g7 (gr gp cp gb cb : Nat) (h : 7 < (dbA gr gp cp gb cb).size) : (dbA gr gp cp gb cb)[7]'h = .int .i64 0 := get_of h (by unfold dbA; rfl)
@[go_sem] theorem dbA_7 (gr gp cp gb cb : Nat) : (dbA gr gp cp gb cb)[7]? = some (.int .i64 0) := by unfold dbA; rfl
@[go_sem] theorem dbA_g8 (gr gp cp gb cb : Nat) (h : 8 < (dbA gr gp cp gb cb).size) : (dbA gr gp cp gb cb)[8]'h = .slice none 0 0 := get_of h (by unfold dbA; rfl)
@[go_sem] theorem dbA_8 (gr gp cp gb cb : Nat) : (dbA gr gp cp gb cb)[8]? = some (.slice none 0 0) := by unfold dbA; rfl
@[go_sem] theorem dbA_g9 (gr gp cp gb cb : Nat) (h : 9 < (dbA gr gp cp gb cb).size) : (dbA gr gp cp gb cb)[9]'h = .slice none 0 0 := get_of h (by unfold dbA; rfl)
@[go_sem] theorem dbA_9 (gr gp cp gb cb : Nat) : (dbA gr gp cp gb cb)[9]? = some (.slice none 0 0) := by unfold dbA; rfl
@[go_sem] theorem dbA_g10 (gr gp cp gb cb : Nat) (h : 10 < (dbA gr gp cp gb cb).size) : (dbA gr gp cp gb cb)[10]'h = .slice none 0 0 := get_of h (by unfold dbA; rfl)
@[go_sem] theorem dbA_10 (gr gp cp gb cb : Nat) : (dbA gr gp cp gb cb)[10]? = some (.slice none 0 0) := by unfold dbA; rfl
@[go_sem] theorem dbA_g11 (gr gp cp gb cb : Nat) (h : 11 < (dbA gr gp cp gb cb).size) : (dbA gr gp cp gb cb)[11]'h = .slice (some ⟨gr, 0, none⟩) 2 2 := get_of h (by unfold dbA; rfl)
@[go_sem] theorem dbA_11 (gr gp cp gb cb : Nat) : (dbA gr gp cp gb cb)[11]? = some (.slice (some ⟨gr, 0, none⟩) 2 2) := by unfold dbA; rfl
@[go_sem] theorem dbA_g12 (gr gp cp gb cb : Nat) (h : 12 < (dbA gr gp cp gb cb).size) : (dbA gr gp cp gb cb)[12]'h = .slice none 0 0 := get_of h (by unfold dbA; rfl)
@[go_sem] theorem dbA_12 (gr gp cp gb cb : Nat) : (dbA gr gp cp gb cb)[12]? = some (.slice none 0 0) := by unfold dbA; rfl
@[go_sem] theorem dbA_g13 (gr gp cp gb cb : Nat) (h : 13 < (dbA gr gp cp gb cb).size) : (dbA gr gp cp gb cb)[13]'h = .slice (some ⟨gp, 0, none⟩) 2 cp := get_of h (by unfold dbA; rfl)
@[go_sem] theorem dbA_13 (gr gp cp gb cb : Nat) : (dbA gr gp cp gb cb)[13]? = some (.slice (some ⟨gp, 0, none⟩) 2 cp) := by unfold dbA; rfl
@[go_sem] theorem dbA_g14 (gr gp cp gb cb : Nat) (h : 14 < (dbA gr gp cp gb cb).size) : (dbA gr gp cp gb cb)[14]'h = .int .i64 0 := get_of h (by unfold dbA; rfl)
@[go_sem] theorem dbA_14 (gr gp cp gb cb : Nat) : (dbA gr gp cp gb cb)[14]? = some (.int .i64 0) := by unfold dbA; rfl
@[go_sem] theorem dbA_g15 (gr gp cp gb cb : Nat) (h : 15 < (dbA gr gp cp gb cb).size) : (dbA gr gp cp gb cb)[15]'h = .slice none 0 0 := get_of h (by unfold dbA; rfl)
@[go_sem] theorem dbA_15 (gr gp cp gb cb : Nat) : (dbA gr gp cp gb cb)[15]? = some (.slice none 0 0) := by unfold dbA; rfl
@[go_sem] theorem dbA_g16 (gr gp cp gb cb : Nat) (h : 16 < (dbA gr gp cp gb cb).size) : (dbA gr gp cp gb cb)[16]'h = .bool false := get_of h (by unfold dbA; rfl)
@[go_sem] theorem dbA_16 (gr gp cp gb cb : Nat) : (dbA gr gp cp gb cb)[16]? = some (.bool false) := by unfold dbA; rfl
@[go_sem] theorem dbA_g17 (gr gp cp gb cb : Nat) (h : 17 < (dbA gr gp cp gb cb).size) : (dbA gr gp cp gb cb)[17]'h = .slice none 0 0 := get_of h (by unfold dbA; rfl)
@[go_sem] theorem dbA_17 (gr gp cp gb cb : Nat) : (dbA gr gp cp gb cb)[17]? = some (.slice none 0 0) := by unfold dbA; rfl
@[go_sem] theorem dbA_g18 (gr gp cp gb cb : Nat) (h : 18 < (dbA gr gp cp gb cb).size) : (dbA gr gp cp gb cb)[18]'h = .slice (some ⟨gb, 0, none⟩) 1 cb := get_of h (by unfold dbA; rfl)
@[go_sem] theorem dbA_18 (gr gp cp gb cb : Nat) : (dbA gr gp cp gb cb)[18]? = some (.slice (some ⟨gb, 0, none⟩) 1 cb) := by unfold dbA; rfl
@[go_sem] theorem dbA_g19 (gr gp cp gb cb : Nat) (h : 19 < (dbA gr gp cp gb cb).size) : (dbA gr gp cp gb cb)[19]'h = .int .i64 2 := get_of h (by unfold dbA; rfl)
@[go_sem] theorem dbA_19 (gr gp cp gb cb : Nat) : (dbA gr gp cp gb cb)[19]? = some (.int .i64 2) := by unfold dbA; rfl
@[go_sem] theorem dbA_g20 (gr gp cp gb cb : Nat) (h : 20 < (dbA gr gp cp gb cb).size) : (dbA gr gp cp gb cb)[20]'h = .slice none 0 0 := get_of h (by unfold dbA; rfl)
@[go_sem] theorem dbA_20 (gr gp cp gb cb : Nat) : (dbA gr gp cp gb cb)[20]? = some (.slice none 0 0) := by unfold dbA; rfl
@[go_sem] theorem dbA_g21 (gr gp cp gb cb : Nat) (h : 21 < (dbA gr gp cp gb cb).size) : (dbA gr gp cp gb cb)[21]'h = .int .i64 1 := get_of h (by unfold dbA; rfl)
@[go_sem] theorem dbA_21 (gr gp cp gb cb : Nat) : (dbA gr gp cp gb cb)[21]? = some (.int .i64 1) := by unfold dbA; rfl
@[go_sem] theorem dbA_g22 (gr gp cp gb cb : Nat) (h : 22 < (dbA gr gp cp gb cb).size) : (dbA gr gp cp gb cb)[22]'h = .int .i64 1 := get_of h (by unfold dbA; rfl)
@[go_sem] theorem dbA_22 (gr gp cp gb cb : Nat) : (dbA gr gp cp gb cb)[22]? = some (.int .i64 1) := by unfold dbA; rfl
@[go_sem] theorem dbA_g23 (gr gp cp gb cb : Nat) (h : 23 < (dbA gr gp cp gb cb).size) : (dbA gr gp cp gb cb)[23]'h = .slice none 0 0 := get_of h (by unfold dbA; rfl)
@[go_sem] theorem dbA_23 (gr gp cp gb cb : Nat) : (dbA gr gp cp gb cb)[23]? = some (.slice none 0 0) := by unfold dbA; rfl
@[go_sem] theorem dbA_g24 (gr gp cp gb cb : Nat) (h : 24 < (dbA gr gp cp gb cb).size) : (dbA gr gp cp gb cb)[24]'h = .int .i64 0 := get_of h (by unfold dbA; rfl)
@[go_sem] theorem dbA_24 (gr gp cp gb cb : Nat) : (dbA gr gp cp gb cb)[24]? = some (.int .i64 0) := by unfold dbA; rfl
@[go_sem] theorem dbA_g25 (gr gp cp gb cb : Nat) (h : 25 < (dbA gr gp cp gb cb).size) : (dbA gr gp cp gb cb)[25]'h = .int .i64 0 := get_of h (by unfold dbA; rfl)
@[go_sem] theorem dbA_25 (gr gp cp gb cb : Nat) : (dbA gr gp cp gb cb)[25]? = some (.int .i64 0) := by unfold dbA; rfl
@[go_sem] theorem dbA_g26 (gr gp cp gb cb : Nat) (h : 26 < (dbA gr gp cp gb cb).size) : (dbA gr gp cp gb cb)[26]'h = .slice none 0 0 := get_of h (by unfold dbA; rfl)
@[go_sem] theorem dbA_26 (gr gp cp gb cb : Nat) : (dbA gr gp cp gb cb)[26]? = some (.slice none 0 0) := by unfold dbA; rfl
@[go_sem] theorem dbA_g27 (gr gp cp gb cb : Nat) (h : 27 < (dbA gr gp cp gb cb).size) : (dbA gr gp cp gb cb)[27]'h = .int .i64 0 := get_of h (by unfold dbA; rfl)
@[go_sem] theorem dbA_27 (gr gp cp gb cb : Nat) : (dbA gr gp cp gb cb)[27]? = some (.int .i64 0) := by unfold dbA; rfl
@[go_sem] theorem dbA_g28 (gr gp cp gb cb : Nat) (h : 28 < (dbA gr gp cp gb cb).size) : (dbA gr gp cp gb cb)[28]'h = .bool false := get_of h (by unfold dbA; rfl)
@[go_sem] theorem dbA_28 (gr gp cp gb cb : Nat) : (dbA gr gp cp gb cb)[28]? = some (.bool false) := by unfold dbA; rfl
@[go_sem] theorem dbA_g29 (gr gp cp gb cb : Nat) (h : 29 < (dbA gr gp cp gb cb).size) : (dbA gr gp cp gb cb)[29]'h = .bool false := get_of h (by unfold dbA; rfl)
@[go_sem] theorem dbA_29 (gr gp cp gb cb : Nat) : (dbA gr gp cp gb cb)[29]? = some (.bool false) := by unfold dbA; rfl
@[go_sem] theorem dbA_g30 (gr gp cp gb cb : Nat) (h : 30 < (dbA gr gp cp gb cb).size) : (dbA gr gp cp gb cb)[30]'h = .slice none 0 0 := get_of h (by unfold dbA; rfl)
@[go_sem] theorem dbA_30 (gr gp cp gb cb : Nat) : (dbA gr gp cp gb cb)[30]? = some (.slice none 0 0) := by unfold dbA; rfl
@[go_sem] theorem dbA_g31 (gr gp cp gb cb : Nat) (h : 31 < (dbA gr gp cp gb cb).size) : (dbA gr gp cp gb cb)[31]'h = .slice none 0 0 := get_of h (by unfold dbA; rfl)
@[go_sem] theorem dbA_31 (gr gp cp gb cb : Nat) : (dbA gr gp cp gb cb)[31]? = some (.slice none 0 0) := by unfold dbA; rfl
@[go_sem] theorem dbA_g32 (gr gp cp gb cb : Nat) (h : 32 < (dbA gr gp cp gb cb).size) : (dbA gr gp cp gb cb)[32]'h = .int .i64 2 := get_of h (by unfold dbA; rfl)
@[go_sem] theorem dbA_32 (gr gp cp gb cb : Nat) : (dbA gr gp cp gb cb)[32]? = some (.int .i64 2) := by unfold dbA; rfl
@[go_sem] theorem dbA_g33 (gr gp cp gb cb : Nat) (h : 33 < (dbA gr gp cp gb cb).size) : (dbA gr gp cp gb cb)[33]'h = .int .i64 0 := get_of h (by unfold dbA; rfl)
@[go_sem] theorem dbA_33 (gr gp cp gb cb : Nat) : (dbA gr gp cp gb cb)[33]? = some (.int .i64 0) := by unfold dbA; rfl
@[go_sem] theorem dbA_g34 (gr gp cp gb cb : Nat) (h : 34 < (dbA gr gp cp gb cb).size) : (dbA gr gp cp gb cb)[34]'h = .slice none 0 0 := get_of h (by unfold dbA; rfl)
@[go_sem] theorem dbA_34 (gr gp cp gb cb : Nat) : (dbA gr gp cp gb cb)[34]? = some (.slice none 0 0) := by unfold dbA; rfl
@[go_sem] theorem dbA_g35 (gr gp cp gb cb : Nat) (h : 35 < (dbA gr gp cp gb cb).size) : (dbA gr gp cp gb cb)[35]'h = .slice none 0 0 := get_of h (by unfold dbA; rfl)
@[go_sem] theorem dbA_35 (gr gp cp gb cb : Nat) : (dbA gr gp cp gb cb)[35]? = some (.slice none 0 0) := by unfold dbA; rfl
@[go_sem] theorem dbA_g36 (gr gp cp gb cb : Nat) (h : 36 < (dbA gr gp cp gb cb).size) : (dbA gr gp cp gb cb)[36]'h = .int .i64 0 := get_of h (by unfold dbA; rfl)
@[go_sem] theorem dbA_36 (gr gp cp gb cb : Nat) : (dbA gr gp cp gb cb)[36]? = some (.int .i64 0) := by unfold dbA; rfl
@[go_sem] theorem dbA_g37 (gr gp cp gb cb : Nat) (h : 37 < (dbA gr gp cp gb cb).size) : (dbA gr gp cp gb cb)[37]'h = .slice none 0 0 := get_of h (by unfold dbA; rfl)
@[go_sem] theorem dbA_37 (gr gp cp gb cb : Nat) : (dbA gr gp cp gb cb)[37]? = some (.slice none 0 0) := by unfold dbA; rfl
@[go_sem] theorem dbA_g38 (gr gp cp gb cb : Nat) (h : 38 < (dbA gr gp cp gb cb).size) : (dbA gr gp cp gb cb)[38]'h = .int .i64 1 := get_of h (by unfold dbA; rfl)
@[go_sem] theorem dbA_38 (gr gp cp gb cb : Nat) : (dbA gr gp cp gb cb)[38]? = some (.int .i64 1) := by unfold dbA; rfl
@[go_sem] theorem dbA_g39 (gr gp cp gb cb : Nat) (h : 39 < (dbA gr gp cp gb cb).size) : (dbA gr gp cp gb cb)[39]'h = .int .i64 1 := get_of h (by unfold dbA; rfl)
@[go_sem] theorem dbA_39 (gr gp cp gb cb : Nat) : (dbA gr gp cp gb cb)[39]? = some (.int .i64 1) := by unfold dbA; rfl
@[go_sem] theorem dbA_g40 (gr gp cp gb cb : Nat) (h : 40 < (dbA gr gp cp gb cb).size) : (dbA gr gp cp gb cb)[40]'h = .int .i64 1 := get_of h (by unfold dbA; rfl)
@[go_sem] theorem dbA_40 (gr gp cp gb cb : Nat) : (dbA gr gp cp gb cb)[40]? = some (.int .i64 1) := by unfold dbA; rfl
@[go_sem] theorem dbA_g41 (gr gp cp gb cb : Nat) (h : 41 < (dbA gr gp cp gb cb).size) : (dbA gr gp cp gb cb)[41]'h = .int .i64 1 := get_of h (by unfold dbA; rfl)
@[go_sem] theorem dbA_41 (gr gp cp gb cb : Nat) : (dbA gr gp cp gb cb)[41]? = some (.int .i64 1) := by unfold dbA; rfl
@[go_sem] theorem dbA_g42 (gr gp cp gb cb : Nat) (h : 42 < (dbA gr gp cp gb cb).size) : (dbA gr gp cp gb cb)[42]'h = .int .i64 1 := get_of h (by unfold dbA; rfl)
@[go_sem] theorem dbA_42 (gr gp cp gb cb : Nat) : (dbA gr gp cp gb cb)[42]? = some (.int .i64 1) := by unfold dbA; rfl
@[go_sem] theorem dbA_g43 (gr gp cp gb cb : Nat) (h : 43 < (dbA gr gp cp gb cb).size) : (dbA gr gp cp gb cb)[43]'h = .int .i64 1 := get_of h (by unfold dbA; rfl)
@[go_sem] theorem dbA_43 (gr gp cp gb cb : Nat) : (dbA gr gp cp gb cb)[43]? = some (.int .i64 1) := by unfold dbA; rfl
@[go_sem] theorem dbA_g44 (gr gp cp gb cb : Nat) (h : 44 < (dbA gr gp cp gb cb).size) : (dbA gr gp cp gb cb)[44]'h = .int .i64 1 := get_of h (by unfold dbA; rfl)
@[go_sem] theorem dbA_44 (gr gp cp gb cb : Nat) : (dbA gr gp cp gb cb)[44]? = some (.int .i64 1) := by unfold dbA; rfl
@[go_sem] theorem dbA_g45 (gr gp cp gb cb : Nat) (h : 45 < (dbA gr gp cp gb cb).size) : (dbA gr gp cp gb cb)[45]'h = .int .i64 1 := get_of h (by unfold dbA; rfl)
@[go_sem] theorem dbA_45 (gr gp cp gb cb : Nat) : (dbA gr gp cp gb cb)[45]? = some (.int .i64 1) := by unfold dbA; rfl
@[go_sem] theorem dbA_g46 (gr gp cp gb cb : Nat) (h : 46 < (dbA gr gp cp gb cb).size) : (dbA gr gp cp gb cb)[46]'h = .int .i64 1 := get_of h (by unfold dbA; rfl)
@[go_sem] theorem dbA_46 (gr gp cp gb cb : Nat) : (dbA gr gp cp gb cb)[46]? = some (.int .i64 1) := by unfold dbA; rfl
@[go_sem] theorem dbA_g47 (gr gp cp gb cb : Nat) (h : 47 < (dbA gr gp cp gb cb).size) : (dbA gr gp cp gb cb)[47]'h = .int .i64 0 := get_of h (by unfold dbA; rfl)
@[go_sem] theorem dbA_47 (gr gp cp gb cb : Nat) : (dbA gr gp cp gb cb)[47]? = some (.int .i64 0) := by unfold dbA; rfl
@[go_sem] theorem dbA_g48 (gr gp cp gb cb : Nat) (h : 48 < (dbA gr gp cp gb cb).size) : (dbA gr gp cp gb cb)[48]'h = .slice none 0 0 := get_of h (by unfold dbA; rfl)
@[go_sem] theorem dbA_48 (gr gp cp gb cb : Nat) : (dbA gr gp cp gb cb)[48]? = some (.slice none 0 0) := by unfold dbA; rfl
@[go_sem] theorem dbA_g49 (gr gp cp gb cb : Nat) (h : 49 < (dbA gr gp cp gb cb).size) : (dbA gr gp cp gb cb)[49]'h = .int .i64 0 := get_of h (by unfold dbA; rfl)
@[go_sem] theorem dbA_49 (gr gp cp gb cb : Nat) : (dbA gr gp cp gb cb)[49]? = some (.int .i64 0) := by unfold dbA; rfl
@[irreducible] def kerA (gr : Nat) : Array Value := #[.int .i64 2, .int .i64 1, .int .i64 1, .slice none 0 0, .int .i64 0, .int .i64 1, .slice none 0 0, .int .i64 0, .slice none 0 0, .slice none 0 0, .slice none 0 0, .slice (some ⟨gr, 0, none⟩) 2 2, .slice none 0 0]
@[go_sem] theorem kerA_size (gr : Nat) : (kerA gr).size = 13 := by unfold kerA; rfl
@[go_sem] theorem kerA_one (gr : Nat) : One (kerA gr) := by unfold One kerA; simp [Value.oneCell']
@[go_sem] theorem kerA_g0 (gr : Nat) (h : 0 < (kerA gr).size) : (kerA gr)[0]'h = .int .i64 2 := get_of h (by unfold kerA; rfl)
@[go_sem] theorem kerA_0 (gr : Nat) : (kerA gr)[0]? = some (.int .i64 2) := by unfold kerA; rfl
@[go_sem] theorem kerA_g1 (gr : Nat) (h : 1 < (kerA gr).size) : (kerA gr)[1]'h = .int .i64 1 := get_of h (by unfold kerA; rfl)
@[go_sem] theorem kerA_1 (gr : Nat) : (kerA gr)[1]? = some (.int .i64 1) := by unfold kerA; rfl
@[go_sem] theorem kerA_g2 (gr : Nat) (h : 2 < (kerA gr).size) : (kerA gr)[2]'h = .int .i64 1 := get_of h (by unfold kerA; rfl)
@[go_sem] theorem kerA_2 (gr : Nat) : (kerA gr)[2]? = some (.int .i64 1) := by unfold kerA; rfl
@[go_sem] theorem kerA_g3 (gr : Nat) (h : 3 < (kerA gr).size) : (kerA gr)[3]'h = .slice none 0 0 := get_of h (by unfold kerA; rfl)
@[go_sem] theorem kerA_3 (gr : Nat) : (kerA gr)[3]? = some (.slice none 0 0) := by unfold kerA; rfl
@[go_sem] theorem kerA_g4 (gr : Nat) (h : 4 < (kerA gr).size) : (kerA gr)[4]'h = .int .i64 0 := get_of h (by unfold kerA; rfl)
@[go_sem] theorem kerA_4 (gr : Nat) : (kerA gr)[4]? = some (.int .i64 0) := by unfold kerA; rfl
@[go_sem] theorem kerA_g5 (gr : Nat) (h : 5 < (kerA gr).size) : (kerA gr)[5]'h = .int .i64 1 := get_of h (by unfold kerA; rfl)
@[go_sem] theorem kerA_5 (gr : Nat) : (kerA gr)[5]? = some (.int .i64 1) := by unfold kerA; rfl
@[go_sem] theorem kerA_g6 (gr : Nat) (h : 6 < (kerA gr).size) : (kerA gr)[6]'h = .slice none 0 0 := get_of h (by unfold kerA; rfl)
@[go_sem] theorem kerA_6 (gr : Nat) : (kerA gr)[6]? = some (.slice none 0 0) := by unfold kerA; rfl
@[go_sem] theorem kerA_g7 (gr : Nat) (h : 7 < (kerA gr).size) : (kerA gr)[7]'h = .int .i64 0 := get_of h (by unfold kerA; rfl)
@[go_sem] theorem kerA_7 (gr : Nat) : (kerA gr)[7]? = some (.int .i64 0) := by unfold kerA; rfl
@[go_sem] theorem kerA_g8 (gr : Nat) (h : 8 < (kerA gr).size) : (kerA gr)[8]'h = .slice none 0 0 := get_of h (by unfold kerA; rfl)
@[go_sem] theorem kerA_8 (gr : Nat) : (kerA gr)[8]? = some (.slice none 0 0) := by unfold kerA; rfl
@[go_sem] theorem kerA_g9 (gr : Nat) (h : 9 < (kerA gr).size) : (kerA gr)[9]'h = .slice none 0 0 := get_of h (by unfold kerA; rfl)
@[go_sem] theorem kerA_9 (gr : Nat) : (kerA gr)[9]? = some (.slice none 0 0) := by unfold kerA; rfl
@[go_sem] theorem kerA_g10 (gr : Nat) (h : 10 < (kerA gr).size) : (kerA gr)[10]'h = .slice none 0 0 := get_of h (by unfold kerA; rfl)
@[go_sem] theorem kerA_10 (gr : Nat) : (kerA gr)[10]? = some (.slice none 0 0) := by unfold kerA; rfl
@[go_sem] theorem kerA_g11 (gr : Nat) (h : 11 < (kerA gr).size) : (kerA gr)[11]'h = .slice (some ⟨gr, 0, none⟩) 2 2 := get_of h (by unfold kerA; rfl)
@[go_sem] theorem kerA_11 (gr : Nat) : (kerA gr)[11]? = some (.slice (some ⟨gr, 0, none⟩) 2 2) := by unfold kerA; rfl
@[go_sem] theorem kerA_g12 (gr : Nat) (h : 12 < (kerA gr).size) : (kerA gr)[12]'h = .slice none 0 0 := get_of h (by unfold kerA; rfl)
@[go_sem] theorem kerA_12 (gr : Nat) : (kerA gr)[12]? = some (.slice none 0 0) := by unfold kerA; rfl
@[irreducible] def quA : Array Value := #[.int .i64 1, .int .i64 1, .int .i64 1, .int .i64 1, .int .i64 1, .int .i64 1, .int .i64 1, .int .i64 1, .int .i64 1, .int .i64 0]
@[go_sem] theorem quA_size : quA.size = 10 := by unfold quA; rfl
@[go_sem] theorem quA_one : One quA := by unfold One quA; simp [Value.oneCell']
@[go_sem] theorem quA_g0 (h : 0 < quA.size) : quA[0]'h = .int .i64 1 := get_of h (by unfold quA; rfl)
@[go_sem] theorem quA_0 : quA[0]? = some (.int .i64 1) := by unfold quA; rfl
@[go_sem] theorem quA_g1 (h : 1 < quA.size) : quA[1]'h = .int .i64 1 := get_of h (by unfold quA; rfl)
@[go_sem] theorem quA_1 : quA[1]? = some (.int .i64 1) := by unfold quA; rfl
@[go_sem] theorem quA_g2 (h : 2 < quA.size) : quA[2]'h = .int .i64 1 := get_of h (by unfold quA; rfl)
@[go_sem] theorem quA_2 : quA[2]? = some (.int .i64 1) := by unfold quA; rfl
@[go_sem] theorem quA_g3 (h : 3 < quA.size) : quA[3]'h = .int .i64 1 := get_of h (by unfold quA; rfl)
@[go_sem] theorem quA_3 : quA[3]? = some (.int .i64 1) := by unfold quA; rfl
@[go_sem] theorem quA_g4 (h : 4 < quA.size) : quA[4]'h = .int .i64 1 := get_of h (by unfold quA; rfl)
@[go_sem] theorem quA_4 : quA[4]? = some (.int .i64 1) := by unfold quA; rfl
@[go_sem] theorem quA_g5 (h : 5 < quA.size) : quA[5]'h = .int .i64 1 := get_of h (by unfold quA; rfl)
@[go_sem] theorem quA_5 : quA[5]? = some (.int .i64 1) := by unfold quA; rfl
@[go_sem] theorem quA_g6 (h : 6 < quA.size) : quA[6]'h = .int .i64 1 := get_of h (by unfold quA; rfl)
@[go_sem] theorem quA_6 : quA[6]? = some (.int .i64 1) := by unfold quA; rfl
@[go_sem] theorem quA_g7 (h : 7 < quA.size) : quA[7]'h = .int .i64 1 := get_of h (by unfold quA; rfl)
@[go_sem] theorem quA_7 : quA[7]? = some (.int .i64 1) := by unfold quA; rfl
@[go_sem] theorem quA_g8 (h : 8 < quA.size) : quA[8]'h = .int .i64 1 := get_of h (by unfold quA; rfl)
@[go_sem] theorem quA_8 : quA[8]? = some (.int .i64 1) := by unfold quA; rfl
@[go_sem] theorem quA_g9 (h : 9 < quA.size) : quA[9]'h = .int .i64 0 := get_of h (by unfold quA; rfl)
@[go_sem] theorem quA_9 : quA[9]? = some (.int .i64 0) := by unfold quA; rfl
@[irreducible] def shA : Array Value := #[.int .i64 1, .int .i64 1, .int .i64 1, .int .i64 1, .int .i64 1, .int .i64 1, .int .i64 1, .int .i64 1]
@[go_sem] theorem shA_size : shA.size = 8 := by unfold shA; rfl
@[go_sem] theorem shA_one : One shA := by unfold One shA; simp [Value.oneCell']
@[go_sem] theorem shA_g0 (h : 0 < shA.size) : shA[0]'h = .int .i64 1 := get_of h (by unfold shA; rfl)
@[go_sem] theorem shA_0 : shA[0]? = some (.int .i64 1) := by unfold shA; rfl
@[go_sem] theorem shA_g1 (h : 1 < shA.size) : shA[1]'h = .int .i64 1 := get_of h (by unfold shA; rfl)
@[go_sem] theorem shA_1 : shA[1]? = some (.int .i64 1) := by unfold shA; rfl
@[go_sem] theorem shA_g2 (h : 2 < shA.size) : shA[2]'h = .int .i64 1 := get_of h (by unfold shA; rfl)
@[go_sem] theorem shA_2 : shA[2]? = some (.int .i64 1) := by unfold shA; rfl
@[go_sem] theorem shA_g3 (h : 3 < shA.size) : shA[3]'h = .int .i64 1 := get_of h (by unfold shA; rfl)
@[go_sem] theorem shA_3 : shA[3]? = some (.int .i64 1) := by unfold shA; rfl
@[go_sem] theorem shA_g4 (h : 4 < shA.size) : shA[4]'h = .int .i64 1 := get_of h (by unfold shA; rfl)
@[go_sem] theorem shA_4 : shA[4]? = some (.int .i64 1) := by unfold shA; rfl
@[go_sem] theorem shA_g5 (h : 5 < shA.size) : shA[5]'h = .int .i64 1 := get_of h (by unfold shA; rfl)
@[go_sem] theorem shA_5 : shA[5]? = some (.int .i64 1) := by unfold shA; rfl
@[go_sem] theorem shA_g6 (h : 6 < shA.size) : shA[6]'h = .int .i64 1 := get_of h (by unfold shA; rfl)
@[go_sem] theorem shA_6 : shA[6]? = some (.int .i64 1) := by unfold shA; rfl
@[go_sem] theorem shA_g7 (h : 7 < shA.size) : shA[7]'h = .int .i64 1 := get_of h (by unfold shA; rfl)
@[go_sem] theorem shA_7 : shA[7]? = some (.int .i64 1) := by unfold shA; rfl
@[irreducible] def zDb : Array Value := #[.int .i64 0, .int .i64 0, .int .i64 0, .slice none 0 0, .int .i64 0, .int .i64 0, .slice none 0 0, .int .i64 0, .slice none 0 0, .slice none 0 0, .slice none 0 0, .slice none 0 0, .slice none 0 0, .slice none 0 0, .int .i64 0, .slice none 0 0, .bool false, .slice none 0 0, .slice none 0 0, .int .i64 0, .slice none 0 0, .int .i64 0, .int .i64 0, .slice none 0 0, .int .i64 0, .int .i64 0, .slice none 0 0, .int .i64 0, .bool false, .bool false, .slice none 0 0, .slice none 0 0, .int .i64 0, .int .i64 0, .slice none 0 0, .slice none 0 0, .int .i64 0, .slice none 0 0, .int .i64 0, .int .i64 0, .int .i64 0, .int .i64 0, .int .i64 0, .int .i64 0, .int .i64 0, .int .i64 0, .int .i64 0, .int .i64 0, .slice none 0 0, .int .i64 0]
@[go_sem] theorem zDb_size : zDb.size = 50 := by unfold zDb; rfl
@[go_sem] theorem zDb_one : One zDb := by unfold One zDb; simp [Value.oneCell']
@[go_sem] theorem zDb_g0 (h : 0 < zDb.size) : zDb[0]'h = .int .i64 0 := get_of h (by unfold zDb; rfl)
@[go_sem] theorem zDb_0 : zDb[0]? = some (.int .i64 0) := by unfold zDb; rfl
@[go_sem] theorem zDb_g1 (h : 1 < zDb.size) : zDb[1]'h = .int .i64 0 := get_of h (by unfold zDb; rfl)
@[go_sem] theorem zDb_1 : zDb[1]? = some (.int .i64 0) := by unfold zDb; rfl
@[go_sem] theorem zDb_g2 (h : 2 < zDb.size) : zDb[2]'h = .int .i64 0 := get_of h (by unfold zDb; rfl)
@[go_sem] theorem zDb_2 : zDb[2]? = some (.int .i64 0) := by unfold zDb; rfl
@[go_sem] theorem zDb_g3 (h : 3 < zDb.size) : zDb[3]'h = .slice none 0 0 := get_of h (by unfold zDb; rfl)
@[go_sem] theorem zDb_3 : zDb[3]? = some (.slice none 0 0) := by unfold zDb; rfl
@[go_sem] theorem zDb_g4 (h : 4 < zDb.size) : zDb[4]'h = .int .i64 0 := get_of h (by unfold zDb; rfl)
@[go_sem] theorem zDb_4 : zDb[4]? = some (.int .i64 0) := by unfold zDb; rfl
@[go_sem] theorem zDb_g5 (h : 5 < zDb.size) : zDb[5]'h = .int .i64 0 := get_of h (by unfold zDb; rfl)
@[go_sem] theorem zDb_5 : zDb[5]? = some (.int .i64 0) := by unfold zDb; rfl
@[go_sem] theorem zDb_g6 (h : 6 < zDb.size) : zDb[6]'h = .slice none 0 0 := get_of h (by unfold zDb; rfl)
@[go_sem] theorem zDb_6 : zDb[6]? = some (.slice none 0 0) := by unfold zDb; rfl
@[go_sem] theorem zDb_g7 (h : 7 < zDb.size) : zDb[7]'h = .int .i64 0 := get_of h (by unfold zDb; rfl)
@[go_sem] theorem zDb_7 : zDb[7]? = some (.int .i64 0) := by unfold zDb; rfl
@[go_sem] theorem zDb_g8 (h : 8 < zDb.size) : zDb[8]'h = .slice none 0 0 := get_of h (by unfold zDb; rfl)
@[go_sem] theorem zDb_8 : zDb[8]? = some (.slice none 0 0) := by unfold zDb; rfl
@[go_sem] theorem zDb_g9 (h : 9 < zDb.size) : zDb[9]'h = .slice none 0 0 := get_of h (by unfold zDb; rfl)
@[go_sem] theorem zDb_9 : zDb[9]? = some (.slice none 0 0) := by unfold zDb; rfl
@[go_sem] theorem zDb_g10 (h : 10 < zDb.size) : zDb[10]'h = .slice none 0 0 := get_of h (by unfold zDb; rfl)
@[go_sem] theorem zDb_10 : zDb[10]? = some (.slice none 0 0) := by unfold zDb; rfl
@[go_sem] theorem zDb_g11 (h : 11 < zDb.size) : zDb[11]'h = .slice none 0 0 := get_of h (by unfold zDb; rfl)
@[go_sem] theorem zDb_11 : zDb[11]? = some (.slice none 0 0) := by unfold zDb; rfl
@[go_sem] theorem zDb_g12 (h : 12 < zDb.size) : zDb[12]'h = .slice none 0 0 := get_of h (by unfold zDb; rfl)
@[go_sem] theorem zDb_12 : zDb[12]? = some (.slice none 0 0) := by unfold zDb; rfl
@[go_sem] theorem zDb_g13 (h : 13 < zDb.size) : zDb[13]'h = .slice none 0 0 := get_of h (by unfold zDb; rfl)
@[go_sem] theorem zDb_13 : zDb[13]? = some (.slice none 0 0) := by unfold zDb; rfl
@[go_sem] theorem zDb_g14 (h : 14 < zDb.size) : zDb[14]'h = .int .i64 0 := get_of h (by unfold zDb; rfl)
@[go_sem] theorem zDb_14 : zDb[14]? = some (.int .i64 0) := by unfold zDb; rfl
@[go_sem] theorem zDb_g15 (h : 15 < zDb.size) : zDb[15]'h = .slice none 0 0 := get_of h (by unfold zDb; rfl)
@[go_sem] theorem zDb_15 : zDb[15]? = some (.slice none 0 0) := by unfold zDb; rfl
@[go_sem] theorem zDb_g16 (h : 16 < zDb.size) : zDb[16]'h = .bool false := get_of h (by unfold zDb; rfl)
@[go_sem] theorem zDb_16 : zDb[16]? = some (.bool false) := by unfold zDb; rfl
@[go_sem] theorem zDb_g17 (h : 17 < zDb.size) : zDb[17]'h = .slice none 0 0 := get_of h (by unfold zDb; rfl)
@[go_sem] theorem zDb_17 : zDb[17]? = some (.slice none 0 0) := by unfold zDb; rfl
@[go_sem] theorem zDb_g18 (h : 18 < zDb.size) : zDb[18]'h = .slice none 0 0 := get_of h (by unfold zDb; rfl)
@[go_sem] theorem zDb_18 : zDb[18]? = some (.slice none 0 0) := by unfold zDb; rfl
@[go_sem] theorem zDb_g19 (h : 19 < zDb.size) : zDb[19]'h = .int .i64 0 := get_of h (by unfold zDb; rfl)
@[go_sem] theorem zDb_19 : zDb[19]? = some (.int .i64 0) := by unfold zDb; rfl
@[go_sem] theorem zDb_g20 (h : 20 < zDb.size) : zDb[20]'h = .slice none 0 0 := get_of h (by unfold zDb; rfl)
@[go_sem] theorem zDb_20 : zDb[20]? = some (.slice none 0 0) := by unfold zDb; rfl
@[go_sem] theorem zDb_g21 (h : 21 < zDb.size) : zDb[21]'h = .int .i64 0 := get_of h (by unfold zDb; rfl)
@[go_sem] theorem zDb_21 : zDb[21]? = some (.int .i64 0) := by unfold zDb; rfl
@[go_sem] theorem zDb_g22 (h : 22 < zDb.size) : zDb[22]'h = .int .i64 0 := get_of h (by unfold zDb; rfl)
@[go_sem] theorem zDb_22 : zDb[22]? = some (.int .i64 0) := by unfold zDb; rfl
@[go_sem] theorem zDb_g23 (h : 23 < zDb.size) : zDb[23]'h = .slice none 0 0 := get_of h (by unfold zDb; rfl)
@[go_sem] theorem zDb_23 : zDb[23]? = some (.slice none 0 0) := by unfold zDb; rfl
@[go_sem] theorem zDb_g24 (h : 24 < zDb.size) : zDb[24]'h = .int .i64 0 := get_of h (by unfold zDb; rfl)
@[go_sem] theorem zDb_24 : zDb[24]? = some (.int .i64 0) := by unfold zDb; rfl
@[go_sem] theorem zDb_g25 (h : 25 < zDb.size) : zDb[25]'h = .int .i64 0 := get_of h (by unfold zDb; rfl)
@[go_sem] theorem zDb_25 : zDb[25]? = some (.int .i64 0) := by unfold zDb; rfl
@[go_sem] theorem zDb_g26 (h : 26 < zDb.size) : zDb[26]'h = .slice none 0 0 := get_of h (by unfold zDb; rfl)
@[go_sem] theorem zDb_26 : zDb[26]? = some (.slice none 0 0) := by unfold zDb; rfl
@[go_sem] theorem zDb_g27 (h : 27 < zDb.size) : zDb[27]'h = .int .i64 0 := get_of h (by unfold zDb; rfl)
@[go_sem] theorem zDb_27 : zDb[27]? = some (.int .i64 0) := by unfold zDb; rfl
@[go_sem] theorem zDb_g28 (h : 28 < zDb.size) : zDb[28]'h = .bool false := get_of h (by unfold zDb; rfl)
@[go_sem] theorem zDb_28 : zDb[28]? = some (.bool false) := by unfold zDb; rfl
@[go_sem] theorem zDb_g29 (h : 29 < zDb.size) : zDb[29]'h = .bool false := get_of h (by unfold zDb; rfl)
@[go_sem] theorem zDb_29 : zDb[29]? = some (.bool false) := by unfold zDb; rfl
@[go_sem] theorem zDb_g30 (h : 30 < zDb.size) : zDb[30]'h = .slice none 0 0 := get_of h (by unfold zDb; rfl)
@[go_sem] theorem zDb_30 : zDb[30]? = some (.slice none 0 0) := by unfold zDb; rfl
@[go_sem] theorem zDb_g31 (h : 31 < zDb.size) : zDb[31]'h = .slice none 0 0 := get_of h (by unfold zDb; rfl)
@[go_sem] theorem zDb_31 : zDb[31]? = some (.slice none 0 0) := by unfold zDb; rfl
@[go_sem] theorem zDb_g32 (h : 32 < zDb.size) : zDb[32]'h = .int .i64 0 := get_of h (by unfold zDb; rfl)
@[go_sem] theorem zDb_32 : zDb[32]? = some (.int .i64 0) := by unfold zDb; rfl
@[go_sem] theorem zDb_g33 (h : 33 < zDb.size) : zDb[33]'h = .int .i64 0 := get_of h (by unfold zDb; rfl)
@[go_sem] theorem zDb_33 : zDb[33]? = some (.int .i64 0) := by unfold zDb; rfl
@[go_sem] theorem zDb_g34 (h : 34 < zDb.size) : zDb[34]'h = .slice none 0 0 := get_of h (by unfold zDb; rfl)
@[go_sem] theorem zDb_34 : zDb[34]? = some (.slice none 0 0) := by unfold zDb; rfl
@[go_sem] theorem zDb_g35 (h : 35 < zDb.size) : zDb[35]'h = .slice none 0 0 := get_of h (by unfold zDb; rfl)
@[go_sem] theorem zDb_35 : zDb[35]? = some (.slice none 0 0) := by unfold zDb; rfl
@[go_sem] theorem zDb_g36 (h : 36 < zDb.size) : zDb[36]'h = .int .i64 0 := get_of h (by unfold zDb; rfl)
@[go_sem] theorem zDb_36 : zDb[36]? = some (.int .i64 0) := by unfold zDb; rfl
@[go_sem] theorem zDb_g37 (h : 37 < zDb.size) : zDb[37]'h = .slice none 0 0 := get_of h (by unfold zDb; rfl)
@[go_sem] theorem zDb_37 : zDb[37]? = some (.slice none 0 0) := by unfold zDb; rfl
@[go_sem] theorem zDb_g38 (h : 38 < zDb.size) : zDb[38]'h = .int .i64 0 := get_of h (by unfold zDb; rfl)
@[go_sem] theorem zDb_38 : zDb[38]? = some (.int .i64 0) := by unfold zDb; rfl
@[go_sem] theorem zDb_g39 (h : 39 < zDb.size) : zDb[39]'h = .int .i64 0 := get_of h (by unfold zDb; rfl)
@[go_sem] theorem zDb_39 : zDb[39]? = some (.int .i64 0) := by unfold zDb; rfl
@[go_sem] theorem zDb_g40 (h : 40 < zDb.size) : zDb[40]'h = .int .i64 0 := get_of h (by unfold zDb; rfl)
@[go_sem] theorem zDb_40 : zDb[40]? = some (.int .i64 0) := by unfold zDb; rfl
@[go_sem] theorem zDb_g41 (h : 41 < zDb.size) : zDb[41]'h = .int .i64 0 := get_of h (by unfold zDb; rfl)
@[go_sem] theorem zDb_41 : zDb[41]? = some (.int .i64 0) := by unfold zDb; rfl
@[go_sem] theorem zDb_g42 (h : 42 < zDb.size) : zDb[42]'h = .int .i64 0 := get_of h (by unfold zDb; rfl)
@[go_sem] theorem zDb_42 : zDb[42]? = some (.int .i64 0) := by unfold zDb; rfl
@[go_sem] theorem zDb_g43 (h : 43 < zDb.size) : zDb[43]'h = .int .i64 0 := get_of h (by unfold zDb; rfl)
@[go_sem] theorem zDb_43 : zDb[43]? = some (.int .i64 0) := by unfold zDb; rfl
@[go_sem] theorem zDb_g44 (h : 44 < zDb.size) : zDb[44]'h = .int .i64 0 := get_of h (by unfold zDb; rfl)
@[go_sem] theorem zDb_44 : zDb[44]? = some (.int .i64 0) := by unfold zDb; rfl
@[go_sem] theorem zDb_g45 (h : 45 < zDb.size) : zDb[45]'h = .int .i64 0 := get_of h (by unfold zDb; rfl)
@[go_sem] theorem zDb_45 : zDb[45]? = some (.int .i64 0) := by unfold zDb; rfl
@[go_sem] theorem zDb_g46 (h : 46 < zDb.size) : zDb[46]'h = .int .i64 0 := get_of h (by unfold zDb; rfl)
@[go_sem] theorem zDb_46 : zDb[46]? = some (.int .i64 0) := by unfold zDb; rfl
@[go_sem] theorem zDb_g47 (h : 47 < zDb.size) : zDb[47]'h = .int .i64 0 := get_of h (by unfold zDb; rfl)
@[go_sem] theorem zDb_47 : zDb[47]? = some (.int .i64 0) := by unfold zDb; rfl
@[go_sem] theorem zDb_g48 (h : 48 < zDb.size) : zDb[48]'h = .slice none 0 0 := get_of h (by unfold zDb; rfl)
@[go_sem] theorem zDb_48 : zDb[48]? = some (.slice none 0 0) := by unfold zDb; rfl
@[go_sem] theorem zDb_g49 (h : 49 < zDb.size) : zDb[49]'h = .int .i64 0 := get_of h (by unfold zDb; rfl)
@[go_sem] theorem zDb_49 : zDb[49]? = some (.int .i64 0) := by unfold zDb; rfl
@[irreducible] def zKer : Array Value := #[.int .i64 0, .int .i64 0, .int .i64 0, .slice none 0 0, .int .i64 0, .int .i64 0, .slice none 0 0, .int .i64 0, .slice none 0 0, .slice none 0 0, .slice none 0 0, .slice none 0 0, .slice none 0 0]
@[go_sem] theorem zKer_size : zKer.size = 13 := by unfold zKer; rfl
@[go_sem] theorem zKer_one : One zKer := by unfold One zKer; simp [Value.oneCell']
@[go_sem] theorem zKer_g0 (h : 0 < zKer.size) : zKer[0]'h = .int .i64 0 := get_of h (by unfold zKer; rfl)
@[go_sem] theorem zKer_0 : zKer[0]? = some (.int .i64 0) := by unfold zKer; rfl
@[go_sem] theorem zKer_g1 (h : 1 < zKer.size) : zKer[1]'h = .int .i64 0 := get_of h (by unfold zKer; rfl)
@[go_sem] theorem zKer_1 : zKer[1]? = some (.int .i64 0) := by unfold zKer; rfl
@[go_sem] theorem zKer_g2 (h : 2 < zKer.size) : zKer[2]'h = .int .i64 0 := get_of h (by unfold zKer; rfl)
@[go_sem] theorem zKer_2 : zKer[2]? = some (.int .i64 0) := by unfold zKer; rfl
@[go_sem] theorem zKer_g3 (h : 3 < zKer.size) : zKer[3]'h = .slice none 0 0 := get_of h (by unfold zKer; rfl)
@[go_sem] theorem zKer_3 : zKer[3]? = some (.slice none 0 0) := by unfold zKer; rfl
@[go_sem] theorem zKer_g4 (h : 4 < zKer.size) : zKer[4]'h = .int .i64 0 := get_of h (by unfold zKer; rfl)
@[go_sem] theorem zKer_4 : zKer[4]? = some (.int .i64 0) := by unfold zKer; rfl
@[go_sem] theorem zKer_g5 (h : 5 < zKer.size) : zKer[5]'h = .int .i64 0 := get_of h (by unfold zKer; rfl)
@[go_sem] theorem zKer_5 : zKer[5]? = some (.int .i64 0) := by unfold zKer; rfl
@[go_sem] theorem zKer_g6 (h : 6 < zKer.size) : zKer[6]'h = .slice none 0 0 := get_of h (by unfold zKer; rfl)
@[go_sem] theorem zKer_6 : zKer[6]? = some (.slice none 0 0) := by unfold zKer; rfl
@[go_sem] theorem zKer_g7 (h : 7 < zKer.size) : zKer[7]'h = .int .i64 0 := get_of h (by unfold zKer; rfl)
@[go_sem] theorem zKer_7 : zKer[7]? = some (.int .i64 0) := by unfold zKer; rfl
@[go_sem] theorem zKer_g8 (h : 8 < zKer.size) : zKer[8]'h = .slice none 0 0 := get_of h (by unfold zKer; rfl)
@[go_sem] theorem zKer_8 : zKer[8]? = some (.slice none 0 0) := by unfold zKer; rfl
@[go_sem] theorem zKer_g9 (h : 9 < zKer.size) : zKer[9]'h = .slice none 0 0 := get_of h (by unfold zKer; rfl)
@[go_sem] theorem zKer_9 : zKer[9]? = some (.slice none 0 0) := by unfold zKer; rfl
@[go_sem] theorem zKer_g10 (h : 10 < zKer.size) : zKer[10]'h = .slice none 0 0 := get_of h (by unfold zKer; rfl)
@[go_sem] theorem zKer_10 : zKer[10]? = some (.slice none 0 0) := by unfold zKer; rfl
@[go_sem] theorem zKer_g11 (h : 11 < zKer.size) : zKer[11]'h = .slice none 0 0 := get_of h (by unfold zKer; rfl)
@[go_sem] theorem zKer_11 : zKer[11]? = some (.slice none 0 0) := by unfold zKer; rfl
@[go_sem] theorem zKer_g12 (h : 12 < zKer.size) : zKer[12]'h = .slice none 0 0 := get_of h (by unfold zKer; rfl)
@[go_sem] theorem zKer_12 : zKer[12]? = some (.slice none 0 0) := by unfold zKer; rfl
@[irreducible] def zQu : Array Value := #[.int .i64 0, .int .i64 0, .int .i64 0, .int .i64 0, .int .i64 0, .int .i64 0, .int .i64 0, .int .i64 0, .int .i64 0, .int .i64 0]
@[go_sem] theorem zQu_size : zQu.size = 10 := by unfold zQu; rfl
@[go_sem] theorem zQu_one : One zQu := by unfold One zQu; simp [Value.oneCell']
@[go_sem] theorem zQu_g0 (h : 0 < zQu.size) : zQu[0]'h = .int .i64 0 := get_of h (by unfold zQu; rfl)
@[go_sem] theorem zQu_0 : zQu[0]? = some (.int .i64 0) := by unfold zQu; rfl
@[go_sem] theorem zQu_g1 (h : 1 < zQu.size) : zQu[1]'h = .int .i64 0 := get_of h (by unfold zQu; rfl)
@[go_sem] theorem zQu_1 : zQu[1]? = some (.int .i64 0) := by unfold zQu; rfl
@[go_sem] theorem zQu_g2 (h : 2 < zQu.size) : zQu[2]'h = .int .i64 0 := get_of h (by unfold zQu; rfl)
@[go_sem] theorem zQu_2 : zQu[2]? = some (.int .i64 0) := by unfold zQu; rfl
@[go_sem] theorem zQu_g3 (h : 3 < zQu.size) : zQu[3]'h = .int .i64 0 := get_of h (by unfold zQu; rfl)
@[go_sem] theorem zQu_3 : zQu[3]? = some (.int .i64 0) := by unfold zQu; rfl
@[go_sem] theorem zQu_g4 (h : 4 < zQu.size) : zQu[4]'h = .int .i64 0 := get_of h (by unfold zQu; rfl)
@[go_sem] theorem zQu_4 : zQu[4]? = some (.int .i64 0) := by unfold zQu; rfl
@[go_sem] theorem zQu_g5 (h : 5 < zQu.size) : zQu[5]'h = .int .i64 0 := get_of h (by unfold zQu; rfl)
@[go_sem] theorem zQu_5 : zQu[5]? = some (.int .i64 0) := by unfold zQu; rfl
@[go_sem] theorem zQu_g6 (h : 6 < zQu.size) : zQu[6]'h = .int .i64 0 := get_of h (by unfold zQu; rfl)
@[go_sem] theorem zQu_6 : zQu[6]? = some (.int .i64 0) := by unfold zQu; rfl
@[go_sem] theorem zQu_g7 (h : 7 < zQu.size) : zQu[7]'h = .int .i64 0 := get_of h (by unfold zQu; rfl)
@[go_sem] theorem zQu_7 : zQu[7]? = some (.int .i64 0) := by unfold zQu; rfl
@[go_sem] theorem zQu_g8 (h : 8 < zQu.size) : zQu[8]'h = .int .i64 0 := get_of h (by unfold zQu; rfl)
@[go_sem] theorem zQu_8 : zQu[8]? = some (.int .i64 0) := by unfold zQu; rfl
@[go_sem] theorem zQu_g9 (h : 9 < zQu.size) : zQu[9]'h = .int .i64 0 := get_of h (by unfold zQu; rfl)
@[go_sem] theorem zQu_9 : zQu[9]? = some (.int .i64 0) := by unfold zQu; rfl
@[irreducible] def zSh : Array Value := #[.int .i64 0, .int .i64 0, .int .i64 0, .int .i64 0, .int .i64 0, .int .i64 0, .int .i64 0, .int .i64 0]
@[go_sem] theorem zSh_size : zSh.size = 8 := by unfold zSh; rfl
@[go_sem] theorem zSh_one : One zSh := by unfold One zSh; simp [Value.oneCell']
@[go_sem] theorem zSh_g0 (h : 0 < zSh.size) : zSh[0]'h = .int .i64 0 := get_of h (by unfold zSh; rfl)
@[go_sem] theorem zSh_0 : zSh[0]? = some (.int .i64 0) := by unfold zSh; rfl
@[go_sem] theorem zSh_g1 (h : 1 < zSh.size) : zSh[1]'h = .int .i64 0 := get_of h (by unfold zSh; rfl)
@[go_sem] theorem zSh_1 : zSh[1]? = some (.int .i64 0) := by unfold zSh; rfl
@[go_sem] theorem zSh_g2 (h : 2 < zSh.size) : zSh[2]'h = .int .i64 0 := get_of h (by unfold zSh; rfl)
@[go_sem] theorem zSh_2 : zSh[2]? = some (.int .i64 0) := by unfold zSh; rfl
@[go_sem] theorem zSh_g3 (h : 3 < zSh.size) : zSh[3]'h = .int .i64 0 := get_of h (by unfold zSh; rfl)
@[go_sem] theorem zSh_3 : zSh[3]? = some (.int .i64 0) := by unfold zSh; rfl
@[go_sem] theorem zSh_g4 (h : 4 < zSh.size) : zSh[4]'h = .int .i64 0 := get_of h (by unfold zSh; rfl)
@[go_sem] theorem zSh_4 : zSh[4]? = some (.int .i64 0) := by unfold zSh; rfl
@[go_sem] theorem zSh_g5 (h : 5 < zSh.size) : zSh[5]'h = .int .i64 0 := get_of h (by unfold zSh; rfl)
@[go_sem] theorem zSh_5 : zSh[5]? = some (.int .i64 0) := by unfold zSh; rfl
@[go_sem] theorem zSh_g6 (h : 6 < zSh.size) : zSh[6]'h = .int .i64 0 := get_of h (by unfold zSh; rfl)
@[go_sem] theorem zSh_6 : zSh[6]? = some (.int .i64 0) := by unfold zSh; rfl
@[go_sem] theorem zSh_g7 (h : 7 < zSh.size) : zSh[7]'h = .int .i64 0 := get_of h (by unfold zSh; rfl)
@[go_sem] theorem zSh_7 : zSh[7]? = some (.int .i64 0) := by unfold zSh; rfl
@[go_sem] theorem dbA_x0 (gr gp cp gb cb : Nat) : (dbA gr gp cp gb cb).extract 0 13 = kerA gr := by unfold dbA kerA; rfl
@[go_sem] theorem dbA_x13 (gr gp cp gb cb : Nat) : (dbA gr gp cp gb cb).extract 13 18 = #[.slice (some ⟨gp, 0, none⟩) 2 cp, .int .i64 0, .slice none 0 0, .bool false, .slice none 0 0] := by unfold dbA; rfl
@[go_sem] theorem dbA_x18 (gr gp cp gb cb : Nat) : (dbA gr gp cp gb cb).extract 18 23 = #[.slice (some ⟨gb, 0, none⟩) 1 cb, .int .i64 2, .slice none 0 0, .int .i64 1, .int .i64 1] := by unfold dbA; rfl
@[go_sem] theorem dbA_x24 (gr gp cp gb cb : Nat) : (dbA gr gp cp gb cb).extract 24 28 = #[.int .i64 0, .int .i64 0, .slice none 0 0, .int .i64 0] := by unfold dbA; rfl
@[go_sem] theorem dbA_x29 (gr gp cp gb cb : Nat) : (dbA gr gp cp gb cb).extract 29 32 = #[.bool false, .slice none 0 0, .slice none 0 0] := by unfold dbA; rfl
@[go_sem] theorem dbA_x32 (gr gp cp gb cb : Nat) : (dbA gr gp cp gb cb).extract 32 36 = #[.int .i64 2, .int .i64 0, .slice none 0 0, .slice none 0 0] := by unfold dbA; rfl
@[go_sem] theorem dbA_x36 (gr gp cp gb cb : Nat) : (dbA gr gp cp gb cb).extract 36 38 = #[.int .i64 0, .slice none 0 0] := by unfold dbA; rfl
@[go_sem] theorem dbA_x38 (gr gp cp gb cb : Nat) : (dbA gr gp cp gb cb).extract 38 48 = quA := by unfold dbA quA; rfl
@[go_sem] theorem kerA_x2 (gr : Nat) : (kerA gr).extract 2 5 = #[.int .i64 1, .slice none 0 0, .int .i64 0] := by unfold kerA; rfl
@[go_sem] theorem dbA_x2 (gr gp cp gb cb : Nat) : (dbA gr gp cp gb cb).extract 2 5 = #[.int .i64 1, .slice none 0 0, .int .i64 0] := by unfold dbA; rfl
@[go_sem] theorem kerA_x5 (gr : Nat) : (kerA gr).extract 5 8 = #[.int .i64 1, .slice none 0 0, .int .i64 0] := by unfold kerA; rfl
@[go_sem] theorem dbA_x5 (gr gp cp gb cb : Nat) : (dbA gr gp cp gb cb).extract 5 8 = #[.int .i64 1, .slice none 0 0, .int .i64 0] := by unfold dbA; rfl
@[go_sem] theorem kerA_x8 (gr : Nat) : (kerA gr).extract 8 10 = #[.slice none 0 0, .slice none 0 0] := by unfold kerA; rfl
@[go_sem] theorem dbA_x8 (gr gp cp gb cb : Nat) : (dbA gr gp cp gb cb).extract 8 10 = #[.slice none 0 0, .slice none 0 0] := by unfold dbA; rfl
@[go_sem] theorem kerA_x11 (gr : Nat) : (kerA gr).extract 11 12 = #[.slice (some ⟨gr, 0, none⟩) 2 2] := by unfold kerA; rfl
@[go_sem] theorem dbA_x11 (gr gp cp gb cb : Nat) : (dbA gr gp cp gb cb).extract 11 12 = #[.slice (some ⟨gr, 0, none⟩) 2 2] := by unfold dbA; rfl
@[go_sem] theorem quA_x0 : quA.extract 0 8 = shA := by unfold quA shA; rfl

/-! ### whole structs -/
theorem heap_sized {w : World} {g n : Nat} (h : (rowAt w g).size = n + 1) : ∃ t fr, w.heap[g]? = some (.cells (rowAt w g) t fr) := by
  unfold rowAt at h ⊢
  split at h
  · rename_i c t fr hh
    exact ⟨t, fr, hh⟩
  · simp at h
theorem ld_all {t : TypeId} {d : TypeDesc} {n : Nat} (hu : Tryz.prog.underlying t = some d) (hd : d.isRow = true) (hi : (Tryz.prog.info? t).map (·.size) = some (n + 1))
    (w : World) (g : Nat) (h : (rowAt w g).size = n + 1) : (ldv t ⟨g, 0, none⟩).run Tryz.prog w = .ok (.agg (rowAt w g)) w := by
  rw [← ldv_eq]
  obtain ⟨t', fr, hh⟩ := heap_sized h
  cases d <;> first | exact run_loadVar_row w g t' t _ fr _ hh hu rfl (by rw [hi, h]) | exact absurd hd (by simp [TypeDesc.isRow])
theorem ld_mid {t : TypeId} {d : TypeDesc} {n m : Nat} (hu : Tryz.prog.underlying t = some d) (hd : d.isRow = true) (hi : (Tryz.prog.info? t).map (·.size) = some n)
    (off : Nat) (ho : off + n ≤ m + 1) (w : World) (g : Nat) (h : (rowAt w g).size = m + 1) : (ldv t ⟨g, off, none⟩).run Tryz.prog w = .ok (.agg ((rowAt w g).extract off (off + n))) w := by
  rw [← ldv_eq]
  obtain ⟨t', fr, hh⟩ := heap_sized h
  have := run_loadVar_mid (P := Tryz.prog) w g off t ((rowAt w g).extract off (off + n)).toList _ (fun j v hj => by
    rw [cell_of_row w g (off + j) _ t' fr hh]
    have hjl : j < n := by
      have := (List.getElem?_eq_some_iff.1 hj).1
      simp at this
      omega
    have h2 : ((rowAt w g).extract off (off + n))[j]? = some v := by rw [← Array.getElem?_toList]; exact hj
    rw [Array.getElem?_extract] at h2
    split at h2
    · exact h2
    · exact absurd h2 (by simp)) hu hd (by rw [hi]; simp; omega)
  rw [Array.toArray_toList] at this
  exact this
theorem st_all {t : TypeId} {n : Nat} (hi : (Tryz.prog.info? t).map (·.size) = some n)
    (w : World) (g : Nat) (a : Array Value) (ha : a.size = n) (h1 : One a) (h : (rowAt w g).size = n) (hf : live w g = true) : (stv t ⟨g, 0, none⟩ (.agg a)).run Tryz.prog w = .ok () (w.setRow g a) := by
  rw [← stv_eq]
  obtain ⟨t', hh⟩ := heap_of_live hf
  exact run_storeVar_row w g t' t _ _ hh (by rw [hi, ha]) (by rw [h, ha]) h1
@[go_sem ↓ high] theorem ldw84 (a : Addr) : loadVar 84 a = ldv 84 a := ldv_eq 84 a
@[go_sem ↓ high] theorem stw84 (a : Addr) (v : Value) : storeVar 84 a v = stv 84 a v := stv_eq 84 a v
theorem info84 : (Tryz.prog.info? 84).map (·.size) = some 50 := by kernel_rfl
@[go_sem] theorem run_ld84 (w : World) (g : Nat) (h : (rowAt w g).size = 50) : (ldv 84 ⟨g, 0, none⟩).run Tryz.prog w = .ok (.agg (rowAt w g)) w := ld_all Tryz.underlying84 rfl info84 w g h
@[go_sem] theorem run_st84 (w : World) (g : Nat) (a : Array Value) (ha : a.size = 50) (h1 : One a) (h : (rowAt w g).size = 50) (hf : live w g = true) : (stv 84 ⟨g, 0, none⟩ (.agg a)).run Tryz.prog w = .ok () (w.setRow g a) := st_all info84 w g a ha h1 h hf
@[go_sem ↓ high] theorem ldw57 (a : Addr) : loadVar 57 a = ldv 57 a := ldv_eq 57 a
@[go_sem ↓ high] theorem stw57 (a : Addr) (v : Value) : storeVar 57 a v = stv 57 a v := stv_eq 57 a v
theorem info57 : (Tryz.prog.info? 57).map (·.size) = some 13 := by kernel_rfl
@[go_sem] theorem run_ld57 (w : World) (g : Nat) (h : (rowAt w g).size = 13) : (ldv 57 ⟨g, 0, none⟩).run Tryz.prog w = .ok (.agg (rowAt w g)) w := ld_all Tryz.underlying57 rfl info57 w g h
@[go_sem] theorem run_st57 (w : World) (g : Nat) (a : Array Value) (ha : a.size = 13) (h1 : One a) (h : (rowAt w g).size = 13) (hf : live w g = true) : (stv 57 ⟨g, 0, none⟩ (.agg a)).run Tryz.prog w = .ok () (w.setRow g a) := st_all info57 w g a ha h1 h hf
@[go_sem ↓ high] theorem ldw82 (a : Addr) : loadVar 82 a = ldv 82 a := ldv_eq 82 a
@[go_sem ↓ high] theorem stw82 (a : Addr) (v : Value) : storeVar 82 a v = stv 82 a v := stv_eq 82 a v
theorem info82 : (Tryz.prog.info? 82).map (·.size) = some 10 := by kernel_rfl
@[go_sem] theorem run_ld82 (w : World) (g : Nat) (h : (rowAt w g).size = 10) : (ldv 82 ⟨g, 0, none⟩).run Tryz.prog w = .ok (.agg (rowAt w g)) w := ld_all Tryz.underlying82 rfl info82 w g h
@[go_sem] theorem run_st82 (w : World) (g : Nat) (a : Array Value) (ha : a.size = 10) (h1 : One a) (h : (rowAt w g).size = 10) (hf : live w g = true) : (stv 82 ⟨g, 0, none⟩ (.agg a)).run Tryz.prog w = .ok () (w.setRow g a) := st_all info82 w g a ha h1 h hf
@[go_sem ↓ high] theorem ldw80 (a : Addr) : loadVar 80 a = ldv 80 a := ldv_eq 80 a
@[go_sem ↓ high] theorem stw80 (a : Addr) (v : Value) : storeVar 80 a v = stv 80 a v := stv_eq 80 a v
theorem info80 : (Tryz.prog.info? 80).map (·.size) = some 8 := by kernel_rfl
@[go_sem] theorem run_ld80 (w : World) (g : Nat) (h : (rowAt w g).size = 8) : (ldv 80 ⟨g, 0, none⟩).run Tryz.prog w = .ok (.agg (rowAt w g)) w := ld_all Tryz.underlying80 rfl info80 w g h
@[go_sem] theorem run_st80 (w : World) (g : Nat) (a : Array Value) (ha : a.size = 8) (h1 : One a) (h : (rowAt w g).size = 8) (hf : live w g = true) : (stv 80 ⟨g, 0, none⟩ (.agg a)).run Tryz.prog w = .ok () (w.setRow g a) := st_all info80 w g a ha h1 h hf
@[go_sem ↓ high] theorem ldw62 (a : Addr) : loadVar 62 a = ldv 62 a := ldv_eq 62 a
@[go_sem ↓ high] theorem stw62 (a : Addr) (v : Value) : storeVar 62 a v = stv 62 a v := stv_eq 62 a v
theorem info62 : (Tryz.prog.info? 62).map (·.size) = some 5 := by kernel_rfl
@[go_sem] theorem run_ld62 (w : World) (g : Nat) (h : (rowAt w g).size = 5) : (ldv 62 ⟨g, 0, none⟩).run Tryz.prog w = .ok (.agg (rowAt w g)) w := ld_all Tryz.underlying62 rfl info62 w g h
@[go_sem] theorem run_st62 (w : World) (g : Nat) (a : Array Value) (ha : a.size = 5) (h1 : One a) (h : (rowAt w g).size = 5) (hf : live w g = true) : (stv 62 ⟨g, 0, none⟩ (.agg a)).run Tryz.prog w = .ok () (w.setRow g a) := st_all info62 w g a ha h1 h hf
@[go_sem ↓ high] theorem ldw65 (a : Addr) : loadVar 65 a = ldv 65 a := ldv_eq 65 a
@[go_sem ↓ high] theorem stw65 (a : Addr) (v : Value) : storeVar 65 a v = stv 65 a v := stv_eq 65 a v
theorem info65 : (Tryz.prog.info? 65).map (·.size) = some 5 := by kernel_rfl
@[go_sem] theorem run_ld65 (w : World) (g : Nat) (h : (rowAt w g).size = 5) : (ldv 65 ⟨g, 0, none⟩).run Tryz.prog w = .ok (.agg (rowAt w g)) w := ld_all Tryz.underlying65 rfl info65 w g h
@[go_sem] theorem run_st65 (w : World) (g : Nat) (a : Array Value) (ha : a.size = 5) (h1 : One a) (h : (rowAt w g).size = 5) (hf : live w g = true) : (stv 65 ⟨g, 0, none⟩ (.agg a)).run Tryz.prog w = .ok () (w.setRow g a) := st_all info65 w g a ha h1 h hf
@[go_sem ↓ high] theorem ldw70 (a : Addr) : loadVar 70 a = ldv 70 a := ldv_eq 70 a
@[go_sem ↓ high] theorem stw70 (a : Addr) (v : Value) : storeVar 70 a v = stv 70 a v := stv_eq 70 a v
theorem info70 : (Tryz.prog.info? 70).map (·.size) = some 4 := by kernel_rfl
@[go_sem] theorem run_ld70 (w : World) (g : Nat) (h : (rowAt w g).size = 4) : (ldv 70 ⟨g, 0, none⟩).run Tryz.prog w = .ok (.agg (rowAt w g)) w := ld_all Tryz.underlying70 rfl info70 w g h
@[go_sem] theorem run_st70 (w : World) (g : Nat) (a : Array Value) (ha : a.size = 4) (h1 : One a) (h : (rowAt w g).size = 4) (hf : live w g = true) : (stv 70 ⟨g, 0, none⟩ (.agg a)).run Tryz.prog w = .ok () (w.setRow g a) := st_all info70 w g a ha h1 h hf
@[go_sem ↓ high] theorem ldw73 (a : Addr) : loadVar 73 a = ldv 73 a := ldv_eq 73 a
@[go_sem ↓ high] theorem stw73 (a : Addr) (v : Value) : storeVar 73 a v = stv 73 a v := stv_eq 73 a v
theorem info73 : (Tryz.prog.info? 73).map (·.size) = some 3 := by kernel_rfl
@[go_sem] theorem run_ld73 (w : World) (g : Nat) (h : (rowAt w g).size = 3) : (ldv 73 ⟨g, 0, none⟩).run Tryz.prog w = .ok (.agg (rowAt w g)) w := ld_all Tryz.underlying73 rfl info73 w g h
@[go_sem] theorem run_st73 (w : World) (g : Nat) (a : Array Value) (ha : a.size = 3) (h1 : One a) (h : (rowAt w g).size = 3) (hf : live w g = true) : (stv 73 ⟨g, 0, none⟩ (.agg a)).run Tryz.prog w = .ok () (w.setRow g a) := st_all info73 w g a ha h1 h hf
@[go_sem ↓ high] theorem ldw76 (a : Addr) : loadVar 76 a = ldv 76 a := ldv_eq 76 a
@[go_sem ↓ high] theorem stw76 (a : Addr) (v : Value) : storeVar 76 a v = stv 76 a v := stv_eq 76 a v
theorem info76 : (Tryz.prog.info? 76).map (·.size) = some 4 := by kernel_rfl
@[go_sem] theorem run_ld76 (w : World) (g : Nat) (h : (rowAt w g).size = 4) : (ldv 76 ⟨g, 0, none⟩).run Tryz.prog w = .ok (.agg (rowAt w g)) w := ld_all Tryz.underlying76 rfl info76 w g h
@[go_sem] theorem run_st76 (w : World) (g : Nat) (a : Array Value) (ha : a.size = 4) (h1 : One a) (h : (rowAt w g).size = 4) (hf : live w g = true) : (stv 76 ⟨g, 0, none⟩ (.agg a)).run Tryz.prog w = .ok () (w.setRow g a) := st_all info76 w g a ha h1 h hf
@[go_sem ↓ high] theorem ldw79 (a : Addr) : loadVar 79 a = ldv 79 a := ldv_eq 79 a
@[go_sem ↓ high] theorem stw79 (a : Addr) (v : Value) : storeVar 79 a v = stv 79 a v := stv_eq 79 a v
theorem info79 : (Tryz.prog.info? 79).map (·.size) = some 2 := by kernel_rfl
@[go_sem] theorem run_ld79 (w : World) (g : Nat) (h : (rowAt w g).size = 2) : (ldv 79 ⟨g, 0, none⟩).run Tryz.prog w = .ok (.agg (rowAt w g)) w := ld_all Tryz.underlying79 rfl info79 w g h
@[go_sem] theorem run_st79 (w : World) (g : Nat) (a : Array Value) (ha : a.size = 2) (h1 : One a) (h : (rowAt w g).size = 2) (hf : live w g = true) : (stv 79 ⟨g, 0, none⟩ (.agg a)).run Tryz.prog w = .ok () (w.setRow g a) := st_all info79 w g a ha h1 h hf
@[go_sem ↓ high] theorem ldw44 (a : Addr) : loadVar 44 a = ldv 44 a := ldv_eq 44 a
@[go_sem ↓ high] theorem stw44 (a : Addr) (v : Value) : storeVar 44 a v = stv 44 a v := stv_eq 44 a v
theorem info44 : (Tryz.prog.info? 44).map (·.size) = some 3 := by kernel_rfl
@[go_sem] theorem run_ld44 (w : World) (g : Nat) (h : (rowAt w g).size = 3) : (ldv 44 ⟨g, 0, none⟩).run Tryz.prog w = .ok (.agg (rowAt w g)) w := ld_all Tryz.underlying44 rfl info44 w g h
@[go_sem] theorem run_st44 (w : World) (g : Nat) (a : Array Value) (ha : a.size = 3) (h1 : One a) (h : (rowAt w g).size = 3) (hf : live w g = true) : (stv 44 ⟨g, 0, none⟩ (.agg a)).run Tryz.prog w = .ok () (w.setRow g a) := st_all info44 w g a ha h1 h hf
@[go_sem ↓ high] theorem ldw47 (a : Addr) : loadVar 47 a = ldv 47 a := ldv_eq 47 a
@[go_sem ↓ high] theorem stw47 (a : Addr) (v : Value) : storeVar 47 a v = stv 47 a v := stv_eq 47 a v
theorem info47 : (Tryz.prog.info? 47).map (·.size) = some 3 := by kernel_rfl
@[go_sem] theorem run_ld47 (w : World) (g : Nat) (h : (rowAt w g).size = 3) : (ldv 47 ⟨g, 0, none⟩).run Tryz.prog w = .ok (.agg (rowAt w g)) w := ld_all Tryz.underlying47 rfl info47 w g h
@[go_sem] theorem run_st47 (w : World) (g : Nat) (a : Array Value) (ha : a.size = 3) (h1 : One a) (h : (rowAt w g).size = 3) (hf : live w g = true) : (stv 47 ⟨g, 0, none⟩ (.agg a)).run Tryz.prog w = .ok () (w.setRow g a) := st_all info47 w g a ha h1 h hf
@[go_sem ↓ high] theorem ldw50 (a : Addr) : loadVar 50 a = ldv 50 a := ldv_eq 50 a
@[go_sem ↓ high] theorem stw50 (a : Addr) (v : Value) : storeVar 50 a v = stv 50 a v := stv_eq 50 a v
theorem info50 : (Tryz.prog.info? 50).map (·.size) = some 2 := by kernel_rfl
@[go_sem] theorem run_ld50 (w : World) (g : Nat) (h : (rowAt w g).size = 2) : (ldv 50 ⟨g, 0, none⟩).run Tryz.prog w = .ok (.agg (rowAt w g)) w := ld_all Tryz.underlying50 rfl info50 w g h
@[go_sem] theorem run_st50 (w : World) (g : Nat) (a : Array Value) (ha : a.size = 2) (h1 : One a) (h : (rowAt w g).size = 2) (hf : live w g = true) : (stv 50 ⟨g, 0, none⟩ (.agg a)).run Tryz.prog w = .ok () (w.setRow g a) := st_all info50 w g a ha h1 h hf
@[go_sem ↓ high] theorem ldw54 (a : Addr) : loadVar 54 a = ldv 54 a := ldv_eq 54 a
@[go_sem ↓ high] theorem stw54 (a : Addr) (v : Value) : storeVar 54 a v = stv 54 a v := stv_eq 54 a v
theorem info54 : (Tryz.prog.info? 54).map (·.size) = some 1 := by kernel_rfl
@[go_sem] theorem run_ld54 (w : World) (g : Nat) (h : (rowAt w g).size = 1) : (ldv 54 ⟨g, 0, none⟩).run Tryz.prog w = .ok (.agg (rowAt w g)) w := ld_all Tryz.underlying54 rfl info54 w g h
@[go_sem] theorem run_st54 (w : World) (g : Nat) (a : Array Value) (ha : a.size = 1) (h1 : One a) (h : (rowAt w g).size = 1) (hf : live w g = true) : (stv 54 ⟨g, 0, none⟩ (.agg a)).run Tryz.prog w = .ok () (w.setRow g a) := st_all info54 w g a ha h1 h hf
@[go_sem ↓ high] theorem ldw68 (a : Addr) : loadVar 68 a = ldv 68 a := ldv_eq 68 a
@[go_sem ↓ high] theorem stw68 (a : Addr) (v : Value) : storeVar 68 a v = stv 68 a v := stv_eq 68 a v
theorem info68 : (Tryz.prog.info? 68).map (·.size) = some 3 := by kernel_rfl
@[go_sem] theorem run_ld68 (w : World) (g : Nat) (h : (rowAt w g).size = 3) : (ldv 68 ⟨g, 0, none⟩).run Tryz.prog w = .ok (.agg (rowAt w g)) w := ld_all Tryz.underlying68 rfl info68 w g h
@[go_sem] theorem run_st68 (w : World) (g : Nat) (a : Array Value) (ha : a.size = 3) (h1 : One a) (h : (rowAt w g).size = 3) (hf : live w g = true) : (stv 68 ⟨g, 0, none⟩ (.agg a)).run Tryz.prog w = .ok () (w.setRow g a) := st_all info68 w g a ha h1 h hf
@[go_sem] theorem run_ld57m (w : World) (g : Nat) (h : (rowAt w g).size = 50) : (ldv 57 ⟨g, 0, none⟩).run Tryz.prog w = .ok (.agg ((rowAt w g).extract 0 13)) w := ld_mid Tryz.underlying57 rfl info57 0 (by omega) w g h
@[go_sem] theorem run_ld62m (w : World) (g : Nat) (h : (rowAt w g).size = 50) : (ldv 62 ⟨g, 13, none⟩).run Tryz.prog w = .ok (.agg ((rowAt w g).extract 13 18)) w := ld_mid Tryz.underlying62 rfl info62 13 (by omega) w g h
@[go_sem] theorem run_ld65m (w : World) (g : Nat) (h : (rowAt w g).size = 50) : (ldv 65 ⟨g, 18, none⟩).run Tryz.prog w = .ok (.agg ((rowAt w g).extract 18 23)) w := ld_mid Tryz.underlying65 rfl info65 18 (by omega) w g h
@[go_sem] theorem run_ld70m (w : World) (g : Nat) (h : (rowAt w g).size = 50) : (ldv 70 ⟨g, 24, none⟩).run Tryz.prog w = .ok (.agg ((rowAt w g).extract 24 28)) w := ld_mid Tryz.underlying70 rfl info70 24 (by omega) w g h
@[go_sem] theorem run_ld73m (w : World) (g : Nat) (h : (rowAt w g).size = 50) : (ldv 73 ⟨g, 29, none⟩).run Tryz.prog w = .ok (.agg ((rowAt w g).extract 29 32)) w := ld_mid Tryz.underlying73 rfl info73 29 (by omega) w g h
@[go_sem] theorem run_ld76m (w : World) (g : Nat) (h : (rowAt w g).size = 50) : (ldv 76 ⟨g, 32, none⟩).run Tryz.prog w = .ok (.agg ((rowAt w g).extract 32 36)) w := ld_mid Tryz.underlying76 rfl info76 32 (by omega) w g h
@[go_sem] theorem run_ld79m (w : World) (g : Nat) (h : (rowAt w g).size = 50) : (ldv 79 ⟨g, 36, none⟩).run Tryz.prog w = .ok (.agg ((rowAt w g).extract 36 38)) w := ld_mid Tryz.underlying79 rfl info79 36 (by omega) w g h
@[go_sem] theorem run_ld82m (w : World) (g : Nat) (h : (rowAt w g).size = 50) : (ldv 82 ⟨g, 38, none⟩).run Tryz.prog w = .ok (.agg ((rowAt w g).extract 38 48)) w := ld_mid Tryz.underlying82 rfl info82 38 (by omega) w g h
@[go_sem] theorem run_ld44m (w : World) (g : Nat) (h : (rowAt w g).size = 50) : (ldv 44 ⟨g, 2, none⟩).run Tryz.prog w = .ok (.agg ((rowAt w g).extract 2 5)) w := ld_mid Tryz.underlying44 rfl info44 2 (by omega) w g h
@[go_sem] theorem run_ld44k (w : World) (g : Nat) (h : (rowAt w g).size = 13) : (ldv 44 ⟨g, 2, none⟩).run Tryz.prog w = .ok (.agg ((rowAt w g).extract 2 5)) w := ld_mid Tryz.underlying44 rfl info44 2 (by omega) w g h
@[go_sem] theorem run_ld47m (w : World) (g : Nat) (h : (rowAt w g).size = 50) : (ldv 47 ⟨g, 5, none⟩).run Tryz.prog w = .ok (.agg ((rowAt w g).extract 5 8)) w := ld_mid Tryz.underlying47 rfl info47 5 (by omega) w g h
@[go_sem] theorem run_ld47k (w : World) (g : Nat) (h : (rowAt w g).size = 13) : (ldv 47 ⟨g, 5, none⟩).run Tryz.prog w = .ok (.agg ((rowAt w g).extract 5 8)) w := ld_mid Tryz.underlying47 rfl info47 5 (by omega) w g h
@[go_sem] theorem run_ld50m (w : World) (g : Nat) (h : (rowAt w g).size = 50) : (ldv 50 ⟨g, 8, none⟩).run Tryz.prog w = .ok (.agg ((rowAt w g).extract 8 10)) w := ld_mid Tryz.underlying50 rfl info50 8 (by omega) w g h
@[go_sem] theorem run_ld50k (w : World) (g : Nat) (h : (rowAt w g).size = 13) : (ldv 50 ⟨g, 8, none⟩).run Tryz.prog w = .ok (.agg ((rowAt w g).extract 8 10)) w := ld_mid Tryz.underlying50 rfl info50 8 (by omega) w g h
@[go_sem] theorem run_ld54m (w : World) (g : Nat) (h : (rowAt w g).size = 50) : (ldv 54 ⟨g, 11, none⟩).run Tryz.prog w = .ok (.agg ((rowAt w g).extract 11 12)) w := ld_mid Tryz.underlying54 rfl info54 11 (by omega) w g h
@[go_sem] theorem run_ld54k (w : World) (g : Nat) (h : (rowAt w g).size = 13) : (ldv 54 ⟨g, 11, none⟩).run Tryz.prog w = .ok (.agg ((rowAt w g).extract 11 12)) w := ld_mid Tryz.underlying54 rfl info54 11 (by omega) w g h
@[go_sem ↓ high] theorem run_zero84 (w : World) : (zeroValue 84).run Tryz.prog w = .ok (.agg zDb) w := by unfold zDb; kernel_rfl
@[go_sem ↓ high] theorem bld84 (parts : Array (Nat × Value)) : Instr.build 84 parts = bld 84 parts := bld_eq 84 parts
@[go_sem] theorem run_bz84 (w : World) : (bld 84 #[]).run Tryz.prog w = .ok (.agg zDb) w := by rw [← bld_eq]; unfold zDb; kernel_rfl
@[go_sem] theorem run_bd84 (gr gp cp gb cb : Nat) (w : World) : (bld 84 #[(0, .agg (kerA gr)), (1, .agg #[.slice (some ⟨gp, 0, none⟩) 2 cp, .int .i64 0, .slice none 0 0, .bool false, .slice none 0 0]), (2, .agg #[.slice (some ⟨gb, 0, none⟩) 1 cb, .int .i64 2, .slice none 0 0, .int .i64 1, .int .i64 1]), (7, .agg #[.int .i64 2, .int .i64 0, .slice none 0 0, .slice none 0 0]), (9, .agg quA)]).run Tryz.prog w = .ok (.agg (dbA gr gp cp gb cb)) w := by rw [← bld_eq]; unfold kerA quA dbA; kernel_rfl
@[go_sem ↓ high] theorem run_zero57 (w : World) : (zeroValue 57).run Tryz.prog w = .ok (.agg zKer) w := by unfold zKer; kernel_rfl
@[go_sem ↓ high] theorem bld57 (parts : Array (Nat × Value)) : Instr.build 57 parts = bld 57 parts := bld_eq 57 parts
@[go_sem] theorem run_bz57 (w : World) : (bld 57 #[]).run Tryz.prog w = .ok (.agg zKer) w := by rw [← bld_eq]; unfold zKer; kernel_rfl
@[go_sem] theorem run_bd57 (gr : Nat) (w : World) : (bld 57 #[(0, .int .i64 2), (1, .int .i64 1), (2, .agg #[.int .i64 1, .slice none 0 0, .int .i64 0]), (3, .agg #[.int .i64 1, .slice none 0 0, .int .i64 0]), (6, .agg #[.slice (some ⟨gr, 0, none⟩) 2 2])]).run Tryz.prog w = .ok (.agg (kerA gr)) w := by rw [← bld_eq]; unfold kerA; kernel_rfl
@[go_sem ↓ high] theorem run_zero82 (w : World) : (zeroValue 82).run Tryz.prog w = .ok (.agg zQu) w := by unfold zQu; kernel_rfl
@[go_sem ↓ high] theorem bld82 (parts : Array (Nat × Value)) : Instr.build 82 parts = bld 82 parts := bld_eq 82 parts
@[go_sem] theorem run_bz82 (w : World) : (bld 82 #[]).run Tryz.prog w = .ok (.agg zQu) w := by rw [← bld_eq]; unfold zQu; kernel_rfl
@[go_sem] theorem run_bd82 (w : World) : (bld 82 #[(0, .agg shA), (1, .int .i64 1)]).run Tryz.prog w = .ok (.agg quA) w := by rw [← bld_eq]; unfold shA quA; kernel_rfl
@[go_sem ↓ high] theorem run_zero80 (w : World) : (zeroValue 80).run Tryz.prog w = .ok (.agg zSh) w := by unfold zSh; kernel_rfl
@[go_sem ↓ high] theorem bld80 (parts : Array (Nat × Value)) : Instr.build 80 parts = bld 80 parts := bld_eq 80 parts
@[go_sem] theorem run_bz80 (w : World) : (bld 80 #[]).run Tryz.prog w = .ok (.agg zSh) w := by rw [← bld_eq]; unfold zSh; kernel_rfl
@[go_sem] theorem run_bd80 (w : World) : (bld 80 #[(0, .int .i64 1), (1, .int .i64 1), (2, .int .i64 1), (3, .int .i64 1), (4, .int .i64 1), (5, .int .i64 1), (6, .int .i64 1), (7, .int .i64 1)]).run Tryz.prog w = .ok (.agg shA) w := by rw [← bld_eq]; unfold shA; kernel_rfl
end Go.Proofs.YtcjmejokgoefkaaGreat
