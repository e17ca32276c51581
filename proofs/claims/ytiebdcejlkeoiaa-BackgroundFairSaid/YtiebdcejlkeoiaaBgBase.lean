/- Words for the walks of the queue of background work: a queue as ten cells, its shares as eight, loaded, stored, built and compared as wholes. No statement of the seat is proved here. -/
import Derived.Test.YtiebdcejlkeoiaaBgLaw
import Derived.Test.YtiebdcejlkeoiaaEq
import Derived.Deep.RegionHeld3
namespace Go.Proofs.Ytiebdcejlkeoiaa
open Go.RowKit
set_option linter.unusedSimpArgs false
set_option linter.unusedVariables false

@[irreducible] def shA (s : Nat → Int) : Array Value := #[.int .i64 (s 0), .int .i64 (s 1), .int .i64 (s 2), .int .i64 (s 3), .int .i64 (s 4), .int .i64 (s 5), .int .i64 (s 6), .int .i64 (s 7)]
@[irreducible] def quA (q : Qu) : Array Value := #[.int .i64 (q.s 0), .int .i64 (q.s 1), .int .i64 (q.s 2), .int .i64 (q.s 3), .int .i64 (q.s 4), .int .i64 (q.s 5), .int .i64 (q.s 6), .int .i64 (q.s 7), .int .i64 q.kind, .int .i64 q.used]
theorem shA_size (s : Nat → Int) : (shA s).size = 8 := by unfold shA; rfl
theorem quA_size (q : Qu) : (quA q).size = 10 := by unfold quA; rfl
theorem shA_one (s : Nat → Int) : (shA s).all (·.oneCell') = true := by unfold shA; simp [Value.oneCell']
theorem quA_one (q : Qu) : (quA q).all (·.oneCell') = true := by unfold quA; simp [Value.oneCell']
@[go_sem] theorem quA_8 (q : Qu) : (quA q)[8]? = some (.int .i64 q.kind) := by unfold quA; rfl
@[go_sem] theorem quA_9 (q : Qu) : (quA q)[9]? = some (.int .i64 q.used) := by unfold quA; rfl
theorem quA_s (q : Qu) (i : Nat) (h : i < 8) : (quA q)[i]? = some (.int .i64 (q.s i)) := by
  unfold quA
  rcases i with _|_|_|_|_|_|_|_|i <;> first | rfl | omega
theorem shA_s (s : Nat → Int) (i : Nat) (h : i < 8) : (shA s)[i]? = some (.int .i64 (s i)) := by
  unfold shA
  rcases i with _|_|_|_|_|_|_|_|i <;> first | rfl | omega
@[go_sem] theorem quA_kind (q : Qu) (n : Int) : (quA q).setIfInBounds 8 (.int .i64 n) = quA { q with kind := n } := by unfold quA; rfl
@[go_sem] theorem quA_used (q : Qu) (n : Int) : (quA q).setIfInBounds 9 (.int .i64 n) = quA { q with used := n } := by unfold quA; rfl
def updS (s : Nat → Int) (i : Nat) (n : Int) : Nat → Int := fun j => if j = i then n else s j
theorem shA_upd (s : Nat → Int) (i : Nat) (n : Int) (h : i < 8) : (shA s).setIfInBounds i (.int .i64 n) = shA (updS s i n) := by
  unfold shA updS
  rcases i with _|_|_|_|_|_|_|_|i <;> first | rfl | omega

/-! ### loads, stores, builds -/
@[go_sem ↓ high] theorem ldv61 (a : Addr) : loadVar 61 a = ldv 61 a := ldv_eq 61 a
@[go_sem ↓ high] theorem stv61 (a : Addr) (v : Value) : storeVar 61 a v = stv 61 a v := stv_eq 61 a v
@[go_sem ↓ high] theorem bld61 (parts : Array (Nat × Value)) : Instr.build 61 parts = bld 61 parts := bld_eq 61 parts
@[go_sem ↓ high] theorem ldv64 (a : Addr) : loadVar 64 a = ldv 64 a := ldv_eq 64 a
@[go_sem ↓ high] theorem stv64 (a : Addr) (v : Value) : storeVar 64 a v = stv 64 a v := stv_eq 64 a v
@[go_sem ↓ high] theorem bld64 (parts : Array (Nat × Value)) : Instr.build 64 parts = bld 64 parts := bld_eq 64 parts
@[go_sem ↓ high] theorem run_zero61 (w : World) : (zeroValue 61).run Try.prog w = .ok (.agg (shA fun _ => 0)) w := by unfold shA; kernel_rfl
@[go_sem ↓ high] theorem run_zero64 (w : World) : (zeroValue 64).run Try.prog w = .ok (.agg (quA zQ)) w := by unfold quA; kernel_rfl
@[go_sem] theorem run_bld64z (w : World) : (bld 64 #[]).run Try.prog w = .ok (.agg (quA zQ)) w := by rw [← bld_eq]; unfold quA; kernel_rfl
@[go_sem] theorem run_bld64 (w : World) (s : Nat → Int) : (bld 64 #[(0, .agg (shA s)), (1, .int .i64 1)]).run Try.prog w = .ok (.agg (quA ⟨s, 1, 0⟩)) w := by rw [← bld_eq]; unfold shA quA; kernel_rfl
theorem info61 : (Try.prog.info? 61).map (·.size) = some 8 := by kernel_rfl
theorem info64 : (Try.prog.info? 64).map (·.size) = some 10 := by kernel_rfl
def IsQu (c : Array Value) : Prop := ∃ q, c = quA q
def IsSh (c : Array Value) : Prop := ∃ s, c = shA s
@[go_sem] theorem isQu_quA (q : Qu) : IsQu (quA q) := ⟨q, rfl⟩
@[go_sem] theorem isSh_shA (s : Nat → Int) : IsSh (shA s) := ⟨s, rfl⟩
theorem heap_of_quA {w : World} {g : Nat} {q : Qu} (h : rowAt w g = quA q) : ∃ t fr, w.heap[g]? = some (.cells (quA q) t fr) := by
  rw [← h]
  unfold rowAt at h ⊢
  split at h
  · rename_i c t fr hh
    exact ⟨t, fr, hh⟩
  · have := congrArg Array.size h
    rw [quA_size] at this
    simp at this
theorem heap_of_shA {w : World} {g : Nat} {s : Nat → Int} (h : rowAt w g = shA s) : ∃ t fr, w.heap[g]? = some (.cells (shA s) t fr) := by
  rw [← h]
  unfold rowAt at h ⊢
  split at h
  · rename_i c t fr hh
    exact ⟨t, fr, hh⟩
  · have := congrArg Array.size h
    rw [shA_size] at this
    simp at this
@[go_sem] theorem run_ld64 (w : World) (g : Nat) (h : IsQu (rowAt w g)) : (ldv 64 ⟨g, 0, none⟩).run Try.prog w = .ok (.agg (rowAt w g)) w := by
  rw [← ldv_eq]
  obtain ⟨q, hq⟩ := h
  obtain ⟨t, fr, hh⟩ := heap_of_quA hq
  rw [hq]
  exact run_loadVar_row w g t 64 _ fr _ hh Try.underlying64 rfl (by rw [info64, quA_size])
theorem run_ld61 (w : World) (g : Nat) (s : Nat → Int) (h : rowAt w g = shA s) : (ldv 61 ⟨g, 0, none⟩).run Try.prog w = .ok (.agg (shA s)) w := by
  rw [← ldv_eq]
  obtain ⟨t, fr, hh⟩ := heap_of_shA h
  exact run_loadVar_row w g t 61 _ fr _ hh Try.underlying61 rfl (by rw [info61, shA_size])
theorem shA_of_quA (q : Qu) (j : Nat) (h : j < 8) : (quA q)[j]? = (shA q.s)[j]? := by rw [quA_s q j h, shA_s q.s j h]
theorem run_ld61q (w : World) (g : Nat) (q : Qu) (h : rowAt w g = quA q) : (ldv 61 ⟨g, 0, none⟩).run Try.prog w = .ok (.agg (shA q.s)) w := by
  rw [← ldv_eq]
  obtain ⟨t, fr, hh⟩ := heap_of_quA h
  have := run_loadVar_mid (P := Try.prog) w g 0 61 (shA q.s).toList _ (fun j v hj => by
    rw [cell_of_row w g (0 + j) _ t fr hh]
    have hjl : j < 8 := by
      have := (List.getElem?_eq_some_iff.1 hj).1
      simpa [shA_size] using this
    rw [Nat.zero_add, shA_of_quA q j hjl]
    simpa using hj) Try.underlying61 rfl (by rw [info61]; simp [shA_size])
  simpa using this
@[go_sem] theorem run_st64 (w : World) (g : Nat) (q : Qu) (h : IsQu (rowAt w g)) (hf : live w g = true) :
    (stv 64 ⟨g, 0, none⟩ (.agg (quA q))).run Try.prog w = .ok () (w.setRow g (quA q)) := by
  rw [← stv_eq]
  obtain ⟨t, hh⟩ := heap_of_live hf
  refine run_storeVar_row w g t 64 _ _ hh (by rw [info64, quA_size]) ?_ (quA_one q)
  obtain ⟨p, hp⟩ := h
  rw [hp, quA_size, quA_size]
@[go_sem] theorem run_st61 (w : World) (g : Nat) (s : Nat → Int) (h : IsSh (rowAt w g)) (hf : live w g = true) :
    (stv 61 ⟨g, 0, none⟩ (.agg (shA s))).run Try.prog w = .ok () (w.setRow g (shA s)) := by
  rw [← stv_eq]
  obtain ⟨t, hh⟩ := heap_of_live hf
  refine run_storeVar_row w g t 61 _ _ hh (by rw [info61, shA_size]) ?_ (shA_one s)
  obtain ⟨p, hp⟩ := h
  rw [hp, shA_size, shA_size]
@[irreducible] def ixq (t : TypeId) (x y : Value) : Sem Value := Instr.index t x y
theorem ixq_eq (t : TypeId) (x y : Value) : Instr.index t x y = ixq t x y := by unfold ixq; rfl
@[go_sem ↓ high] theorem ixw61 (x y : Value) : Instr.index 61 x y = ixq 61 x y := ixq_eq _ _ _
theorem run_ix61 (w : World) (s : Nat → Int) (k : Nat) (hk : k < 8) : (ixq 61 (.agg (shA s)) (.int .i64 (k : Int))).run Try.prog w = .ok (.int .i64 (s k)) w := by
  rw [← ixq_eq]
  unfold shA
  rcases k with _|_|_|_|_|_|_|_|k <;> first | (exfalso; omega) | kernel_rfl

/-! ### compared -/
def shEq (f g : Nat → Int) : Bool := (List.range 8).all fun i => f i == g i
theorem part3s (f : Nat → Int) (i : Nat) (h : i < 8) (w : World) : (part 3 (shA f) (i * 1)).run Try.prog w = .ok (.int .i64 (f i)) w := by
  unfold shA
  rcases i with _|_|_|_|_|_|_|_|i <;> first | (exfalso; omega) | kernel_rfl
theorem items3 (w : World) (d : Nat) (f g : Nat → Int) : ∀ is : List Nat, (∀ i ∈ is, i < 8) → (Op.eqItems (d + 2) 3 1 (shA f) (shA g) is).run Try.prog w = .ok (is.all fun i => f i == g i) w
  | [], _ => by simp [Op.eqItems]
  | i :: is, h => by
    have hi := h i (by simp)
    have ih := items3 w d f g is (fun j hj => h j (by simp [hj]))
    simp only [Op.eqItems, Sem.run_bind, part3s f i hi, part3s g i hi, Result.andThen_ok, run_equalIn_int w _ 3 .i64 .i64 _ _ Try.underlying3]
    cases hc : (f i == g i) with
    | false => simp [hc]
    | true => simp [hc, ih]
theorem cells3 : Try.prog.cellsOf 3 = 1 := by kernel_rfl
theorem info3 : ∃ i, Try.prog.info? 3 = some i := Option.isSome_iff_exists.1 (by kernel_rfl)
theorem eq61 (w : World) (d : Nat) (f g : Nat → Int) : (Op.equalIn (d + 3) 61 (.agg (shA f)) (.agg (shA g))).run Try.prog w = .ok (shEq f g) w := by
  obtain ⟨i, hi⟩ := info3
  rw [run_equalIn_array w (d + 2) _ _ Try.underlying61 hi, cells3]
  exact items3 w d f g _ (fun i hi => by simpa using hi)
theorem part61 (q : Qu) (w : World) : (part 61 (quA q) 0).run Try.prog w = .ok (.agg (shA q.s)) w := by
  unfold quA shA
  kernel_rfl
def quEq (p q : Qu) : Bool := shEq p.s q.s && (p.kind == q.kind && p.used == q.used)
theorem eq64 (w : World) (d : Nat) (p q : Qu) : (Op.equalIn (d + 4) 64 (.agg (quA p)) (.agg (quA q))).run Try.prog w = .ok (quEq p q) w := by
  rw [run_equalIn_struct w (d + 3) 64 _ _ (by kernel_rfl) (by kernel_rfl)]
  have hf : (Try.prog.fieldsOf 64).toList.map (fun f => (f.name, f.type, f.offset)) = [("Shares", 61, 0), ("Kind", 3, 8), ("Used", 3, 9)] := by kernel_rfl
  generalize (Try.prog.fieldsOf 64).toList = fs at hf
  have hlen : fs.length = 3 := by simpa using congrArg List.length hf
  obtain ⟨a, b, c, rfl⟩ : ∃ a b c, fs = [a, b, c] := by
    rcases fs with _ | ⟨a, _ | ⟨b, _ | ⟨c, _ | ⟨d, r⟩⟩⟩⟩
    case cons.cons.cons.nil => exact ⟨a, b, c, rfl⟩
    all_goals simp at hlen
  simp only [List.map_cons, List.map_nil, List.cons.injEq, Prod.mk.injEq, and_true] at hf
  obtain ⟨⟨n1, t1, o1⟩, ⟨n2, t2, o2⟩, ⟨n3, t3, o3⟩⟩ := hf
  have p0 : ∀ r : Qu, (part 3 (quA r) 8).run Try.prog w = .ok (.int .i64 r.kind) w := fun r => by unfold quA; kernel_rfl
  have p1 : ∀ r : Qu, (part 3 (quA r) 9).run Try.prog w = .ok (.int .i64 r.used) w := fun r => by unfold quA; kernel_rfl
  have q1 : ("Shares" ≠ "_") = True := by decide
  have q2 : ("Kind" ≠ "_") = True := by decide
  have q3 : ("Used" ≠ "_") = True := by decide
  simp only [Op.eqFields, n1, n2, n3, t1, t2, t3, o1, o2, o3, q1, q2, q3, if_true, Sem.run_bind, p0, p1, part61, Result.andThen_ok, run_equalIn_int w _ 3 .i64 .i64 _ _ Try.underlying3, Sem.run_ite, eq61 w d, Sem.run_pure]
  unfold quEq
  cases h1 : (p.kind == q.kind) <;> cases h2 : (p.used == q.used) <;> cases h3 : shEq p.s q.s <;> simp
theorem shEq_refl (f : Nat → Int) : shEq f f = true := by simp [shEq]
theorem quEq_refl (p : Qu) : quEq p p = true := by simp [quEq, shEq_refl]
theorem shEq_of {f g : Nat → Int} (h : ∀ i, i < 8 → f i = g i) : shEq f g = true := by simp [shEq, List.all_eq_true]; exact h
@[go_sem ↓ high] theorem bop64n (x y : Value) : binOp .neq 64 x y = bop .neq 64 x y := bop_eq _ _ _ _
@[go_sem ↓ high] theorem bop61n (x y : Value) : binOp .neq 61 x y = bop .neq 61 x y := bop_eq _ _ _ _
@[go_sem] theorem run_bop64n (w : World) (p q : Qu) : (bop .neq 64 (.agg (quA p)) (.agg (quA q))).run Try.prog w = .ok (.bool (!quEq p q)) w := by
  rw [← bop_eq, run_neq_struct, eq64 w 9996]; rfl
@[go_sem] theorem run_bop61n (w : World) (f g : Nat → Int) : (bop .neq 61 (.agg (shA f)) (.agg (shA g))).run Try.prog w = .ok (.bool (!shEq f g)) w := by
  rw [← bop_eq, run_neq_struct, eq61 w 9997]; rfl
/-- A block of the call's own, as rules for the walk. -/
theorem blk' {w : World} {g : Nat} {arr : Array Value} {t : TypeId} (h : w.heap[g]? = some (.cells arr t (0, 0))) : rowAt w g = arr ∧ live w g = true ∧ (∀ o, w.cell? ⟨g, o, none⟩ = arr[o]?) ∧ (∀ o, w.frozen? ⟨g, o, none⟩ = false) :=
  ⟨rowAt_of h, by simp only [live, h], fun o => cell_of_row w g o arr t (0, 0) h, fun o => frozen_of_row w g o arr t h⟩
end Go.Proofs.Ytiebdcejlkeoiaa
