/- Words for the walks of this seat: rows of a world's blocks, a page as its cells, and what a call leaves that draws choices from the codes. No statement of the seat is proved here. -/
import Derived.Test.YtcjmejokgoefkaaGreatProg
import Derived.WalkKit
import Derived.WalkSpells
import Derived.WalkLawsBesides
import Derived.Deep.QuietTactic
import Derived.BigQuiet
import Derived.Laws.CopyOwn
namespace Go.Proofs.YtcjmejokgoefkaaGreat
open Go.RowKit
set_option linter.unusedSimpArgs false
set_option linter.unusedVariables false

/-! ### rows -/
def rowAt (w : World) (g : Nat) : Array Value := match w.heap[g]? with | some (.cells c _ _) => c | _ => #[]

theorem rowAt_of {w : World} {g : Nat} {c : Array Value} {t : TypeId} {fr : Nat × Nat} (h : w.heap[g]? = some (.cells c t fr)) : rowAt w g = c := by simp [rowAt, h]
theorem rowAt_alloc_at (w : World) (c : Array Value) (t : TypeId) (n : Nat) (hn : n = w.heap.size) : rowAt (w.alloc (.cells c t)) n = c := by
  subst hn; exact rowAt_of (heap_alloc_new w _)
theorem rowAt_alloc_past (w : World) (o : Obj) (n : Nat) (hn : n < w.heap.size) : rowAt (w.alloc o) n = rowAt w n := by
  simp only [rowAt, Below.heap_alloc w o n hn]
@[go_sem] theorem rowAt_alloc (w : World) (c : Array Value) (t : TypeId) (n : Nat) : rowAt (w.alloc (.cells c t)) n = if n = w.heap.size then c else rowAt w n := by
  split
  · exact rowAt_alloc_at w c t n ‹_›
  · by_cases h : n < w.heap.size
    · exact rowAt_alloc_past w _ n h
    · have h1 : (w.alloc (.cells c t)).heap[n]? = none := by simp; omega
      have h2 : w.heap[n]? = none := by simp; omega
      simp only [rowAt, h1, h2]
@[go_sem] theorem rowAt_drew (w : World) (n : Nat) : rowAt w.drew n = rowAt w n := rfl
@[go_sem] theorem rowAt_drewN (w : World) (m n : Nat) : rowAt (w.drewN m) n = rowAt w n := rfl

/-- A block of cells that can be written. -/
def live (w : World) (g : Nat) : Bool := match w.heap[g]? with | some (.cells _ _ (0, 0)) => true | _ => false
theorem live_alloc_at (w : World) (c : Array Value) (t : TypeId) (n : Nat) (hn : n = w.heap.size) : live (w.alloc (.cells c t)) n = true := by
  subst hn; simp only [live, heap_alloc_new]
theorem live_alloc_past (w : World) (o : Obj) (n : Nat) (hn : n < w.heap.size) : live (w.alloc o) n = live w n := by
  simp only [live, Below.heap_alloc w o n hn]
@[go_sem] theorem live_alloc (w : World) (c : Array Value) (t : TypeId) (n : Nat) : live (w.alloc (.cells c t)) n = if n = w.heap.size then true else live w n := by
  split
  · exact live_alloc_at w c t n ‹_›
  · by_cases h : n < w.heap.size
    · exact live_alloc_past w _ n h
    · have h1 : (w.alloc (.cells c t)).heap[n]? = none := by simp; omega
      have h2 : w.heap[n]? = none := by simp; omega
      simp only [live, h1, h2]
@[go_sem] theorem live_drew (w : World) (n : Nat) : live w.drew n = live w n := rfl
@[go_sem] theorem live_drewN (w : World) (m n : Nat) : live (w.drewN m) n = live w n := rfl
theorem heap_of_live {w : World} {g : Nat} (h : live w g = true) : ∃ t, w.heap[g]? = some (.cells (rowAt w g) t (0, 0)) := by
  unfold live at h
  unfold rowAt
  split at h
  · rename_i c t hh
    exact ⟨t, by rw [hh]⟩
  · cases h
@[go_sem] theorem setRow_alloc_at (w : World) (c c' : Array Value) (t : TypeId) (n : Nat) (hn : n = w.heap.size) : (w.alloc (.cells c t)).setRow n c' = w.alloc (.cells c' t) := by
  subst hn
  simp only [World.setRow, World.alloc]
  congr 1
  apply Array.ext_getElem?
  intro i
  rw [Array.getElem?_modify]
  by_cases h : w.heap.size = i
  · subst h
    simp
  · have h' : ¬ i = w.heap.size := fun e => h e.symm
    simp [h, h', Array.getElem?_push]
@[go_sem] theorem setRow_alloc_past (w : World) (o : Obj) (c' : Array Value) (n : Nat) (hn : n < w.heap.size) : (w.alloc o).setRow n c' = (w.setRow n c').alloc o := by
  simp only [World.setRow, World.alloc]
  congr 1
  apply Array.ext_getElem?
  intro i
  simp only [Array.getElem?_modify, Array.getElem?_push, Array.size_modify]
  by_cases hk : i = w.heap.size
  · subst hk
    simp [Nat.ne_of_lt hn]
  · simp [hk]
@[go_sem] theorem setRow_drew (w : World) (n : Nat) (c : Array Value) : w.drew.setRow n c = (w.setRow n c).drew := rfl
@[go_sem] theorem setRow_drewN (w : World) (m n : Nat) (c : Array Value) : (w.drewN m).setRow n c = (w.setRow n c).drewN m := rfl

@[go_sem] theorem rowAt_setRow_same (w : World) (g : Nat) (c : Array Value) (h : live w g = true) : rowAt (w.setRow g c) g = c := by
  obtain ⟨t, hh⟩ := heap_of_live h
  exact rowAt_of (setRow_heap w g _ _ t _ hh)
@[go_sem] theorem rowAt_setRow_other (w : World) (g k : Nat) (c : Array Value) (h : k ≠ g) : rowAt (w.setRow g c) k = rowAt w k := by
  simp only [rowAt, setRow_other w g k c h]
@[go_sem] theorem live_setRow (w : World) (g k : Nat) (c : Array Value) (h : live w k = true) : live (w.setRow g c) k = true := by
  by_cases hk : k = g
  · subst hk
    obtain ⟨t, hh⟩ := heap_of_live h
    simp only [live, setRow_heap w k _ _ t _ hh]
  · simpa only [live, setRow_other w g k c hk] using h
@[go_sem] theorem rowAt_setCell (w : World) (g o k : Nat) (v : Value) : rowAt (w.setCell ⟨g, o, none⟩ v) k = if k = g then (rowAt w k).setIfInBounds o v else rowAt w k := by
  unfold rowAt World.setCell
  simp only [Array.getElem?_modify]
  by_cases h : k = g
  · subst h
    simp only [if_true]
    cases w.heap[k]? with
    | none => simp
    | some x => cases x <;> simp
  · have h' : ¬ g = k := fun e => h e.symm
    simp only [h, h', if_false]
@[go_sem] theorem live_setCell (w : World) (a : Addr) (k : Nat) (v : Value) : live (w.setCell a v) k = live w k := by
  unfold live World.setCell
  simp only [Array.getElem?_modify]
  by_cases h : k = a.block
  · subst h
    simp only [if_true]
    cases w.heap[a.block]? with
    | none => rfl
    | some x =>
      cases x with
      | cells c t fr => obtain ⟨x, y⟩ := fr; rcases x with _ | x <;> rcases y with _ | y <;> rfl
      | _ => rfl
  · have h' : ¬ a.block = k := fun e => h e.symm
    simp only [h', if_false]
@[go_sem] theorem size_setRow' (w : World) (g : Nat) (cs : Array Value) : (w.setRow g cs).heap.size = w.heap.size := size_setRow w g cs

/-- What a call that only makes new memory leaves of the old one, as rules for the walk. -/
theorem bfacts {W w1 : World} (hb : Below W.heap.size W w1) : (∀ b o, b < W.heap.size → w1.cell? ⟨b, o, none⟩ = W.cell? ⟨b, o, none⟩) ∧ (∀ b o, b < W.heap.size → w1.frozen? ⟨b, o, none⟩ = W.frozen? ⟨b, o, none⟩) ∧
    (∀ b, b < W.heap.size → rowAt w1 b = rowAt W b) ∧ (∀ b, b < W.heap.size → live w1 b = live W b) ∧ W.heap.size ≤ w1.heap.size :=
  ⟨fun b o h => hb.cell (p := ⟨b, o, none⟩) h, fun b o h => hb.frozen (p := ⟨b, o, none⟩) h, fun b h => by simp only [rowAt, hb.block b h], fun b h => by simp only [live, hb.block b h], hb.size⟩

/-- Loads and stores of whole structs, kept shut for the walk's rules. -/
@[irreducible] def ldv (t : TypeId) (a : Addr) : Sem Value := loadVar t a
@[irreducible] def stv (t : TypeId) (a : Addr) (v : Value) : Sem Unit := storeVar t a v
theorem ldv_eq (t : TypeId) (a : Addr) : loadVar t a = ldv t a := by unfold ldv; rfl
theorem stv_eq (t : TypeId) (a : Addr) (v : Value) : storeVar t a v = stv t a v := by unfold stv; rfl
@[go_sem ↓ high] theorem ldv27 (a : Addr) : loadVar 32 a = ldv 32 a := ldv_eq 32 a
@[go_sem ↓ high] theorem stv27 (a : Addr) (v : Value) : storeVar 32 a v = stv 32 a v := stv_eq 32 a v

/-! ### cells, changes, pages -/
structure Cl where
  set : Bool
  data : ByteArray

structure Pg where
  id : Int
  lsn : Int
  cell : Nat → Cl

def Pg.upd (p : Pg) (s : Nat) (c : Cl) : Pg := { p with cell := fun i => if i = s then c else p.cell i }
@[irreducible] def pgA (p : Pg) : Array Value := #[.int .i64 p.id, .int .i64 p.lsn,
  .bool (p.cell 0).set, .string (p.cell 0).data, .bool (p.cell 1).set, .string (p.cell 1).data, .bool (p.cell 2).set, .string (p.cell 2).data, .bool (p.cell 3).set, .string (p.cell 3).data,
  .bool (p.cell 4).set, .string (p.cell 4).data, .bool (p.cell 5).set, .string (p.cell 5).data, .bool (p.cell 6).set, .string (p.cell 6).data, .bool (p.cell 7).set, .string (p.cell 7).data,
  .bool (p.cell 8).set, .string (p.cell 8).data, .bool (p.cell 9).set, .string (p.cell 9).data, .bool (p.cell 10).set, .string (p.cell 10).data, .bool (p.cell 11).set, .string (p.cell 11).data,
  .bool (p.cell 12).set, .string (p.cell 12).data, .bool (p.cell 13).set, .string (p.cell 13).data, .bool (p.cell 14).set, .string (p.cell 14).data, .bool (p.cell 15).set, .string (p.cell 15).data]

theorem pgA_size (p : Pg) : (pgA p).size = 34 := by unfold pgA; rfl
theorem pgA_one (p : Pg) : (pgA p).all (·.oneCell') = true := by unfold pgA; simp [Value.oneCell']
@[go_sem] theorem pgA_0 (p : Pg) : (pgA p)[0]? = some (.int .i64 p.id) := by unfold pgA; rfl
@[go_sem] theorem pgA_1 (p : Pg) : (pgA p)[1]? = some (.int .i64 p.lsn) := by unfold pgA; rfl
theorem pgA_s (p : Pg) (i : Nat) (h : i < 16) : (pgA p)[2 + i * 2]? = some (.bool (p.cell i).set) := by
  unfold pgA
  rcases i with _|_|_|_|_|_|_|_|_|_|_|_|_|_|_|_|i <;> first | rfl | omega
theorem pgA_d (p : Pg) (i : Nat) (h : i < 16) : (pgA p)[2 + i * 2 + 1]? = some (.string (p.cell i).data) := by
  unfold pgA
  rcases i with _|_|_|_|_|_|_|_|_|_|_|_|_|_|_|_|i <;> first | rfl | omega
/-- A cell is stored into a page. -/
theorem pgA_upd (p : Pg) (s : Nat) (b : Bool) (d : ByteArray) (h : s < 16) : ((pgA p).setIfInBounds (2 + s * 2) (.bool b)).setIfInBounds (2 + s * 2 + 1) (.string d) = pgA (p.upd s ⟨b, d⟩) := by
  unfold pgA Pg.upd
  rcases s with _|_|_|_|_|_|_|_|_|_|_|_|_|_|_|_|s <;> first | rfl | omega
@[go_sem] theorem pgA_id (p : Pg) (n : Int) : (pgA p).setIfInBounds 0 (.int .i64 n) = pgA { p with id := n } := by unfold pgA; rfl
@[go_sem] theorem pgA_lsn (p : Pg) (n : Int) : (pgA p).setIfInBounds 1 (.int .i64 n) = pgA { p with lsn := n } := by unfold pgA; rfl
def zCl : Cl := ⟨false, ⟨#[]⟩⟩
def zPg : Pg := ⟨0, 0, fun _ => zCl⟩
@[go_sem ↓ high] theorem run_zero27 (w : World) : (zeroValue 32).run Tryz.prog w = .ok (.agg (pgA zPg)) w := by unfold pgA; kernel_rfl
@[irreducible] def bld (t : TypeId) (parts : Array (Nat × Value)) : Sem Value := Instr.build t parts
theorem bld_eq (t : TypeId) (parts : Array (Nat × Value)) : Instr.build t parts = bld t parts := by unfold bld; rfl
@[go_sem ↓ high] theorem bld27 (parts : Array (Nat × Value)) : Instr.build 32 parts = bld 32 parts := bld_eq 32 parts
@[go_sem] theorem run_build27 (w : World) : (bld 32 #[]).run Tryz.prog w = .ok (.agg (pgA zPg)) w := by rw [← bld_eq]; unfold pgA; kernel_rfl
@[go_sem] theorem run_build27' (w : World) (i l : Int) : (bld 32 #[(0, .int .i64 i), (1, .int .i64 l)]).run Tryz.prog w = .ok (.agg (pgA ⟨i, l, fun _ => zCl⟩)) w := by rw [← bld_eq]; unfold pgA; kernel_rfl

def IsPg (c : Array Value) : Prop := ∃ p, c = pgA p
@[go_sem] theorem isPg_pgA (p : Pg) : IsPg (pgA p) := ⟨p, rfl⟩
theorem info27 : (Tryz.prog.info? 32).map (·.size) = some 34 := by kernel_rfl
theorem heap_of_rowAt {w : World} {g : Nat} (h : IsPg (rowAt w g)) : ∃ t fr, w.heap[g]? = some (.cells (rowAt w g) t fr) := by
  obtain ⟨p, hp⟩ := h
  unfold rowAt at hp ⊢
  split at hp
  · rename_i c t fr hh
    exact ⟨t, fr, hh⟩
  · have := congrArg Array.size hp
    rw [pgA_size] at this
    simp at this
@[go_sem] theorem run_loadVar27 (w : World) (g : Nat) (h : IsPg (rowAt w g)) : (ldv 32 ⟨g, 0, none⟩).run Tryz.prog w = .ok (.agg (rowAt w g)) w := by
  rw [← ldv_eq]
  obtain ⟨t, fr, hh⟩ := heap_of_rowAt h
  refine run_loadVar_row w g t 32 _ fr _ hh Tryz.underlying32 rfl ?_
  rw [info27]
  obtain ⟨p, hp⟩ := h
  rw [hp, pgA_size]

/-- Storing a whole page over a page. -/
@[go_sem] theorem run_storeVar27 (w : World) (g : Nat) (p : Pg) (h : IsPg (rowAt w g)) (hf : live w g = true) :
    (stv 32 ⟨g, 0, none⟩ (.agg (pgA p))).run Tryz.prog w = .ok () (w.setRow g (pgA p)) := by
  rw [← stv_eq]
  obtain ⟨t, hh⟩ := heap_of_live hf
  refine run_storeVar_row w g t 32 _ _ hh (by rw [info27, pgA_size]) ?_ (pgA_one p)
  obtain ⟨q, hq⟩ := h
  rw [hq, pgA_size, pgA_size]

/-! ### results that lie in memory -/
theorem results_c {fn : Func} {p : Tmp} {ty : TypeId} (h : fn.results = #[.cell p ty]) {tmps : Array Value} {w : World} {a : Addr} {v : Value}
    (hp : tmps.getD p undef = .pointer (some a)) (hl : (ldv ty a).run Tryz.prog w = .ok v w) : (results fn tmps).run Tryz.prog w = .ok v w := by
  rw [← ldv_eq] at hl
  simp only [results, h, Array.getD_eq_getD_getElem?] at hp ⊢
  simp [hp, asAddr, hl, Sem.run_bind, Result.andThen]
theorem results_ct {fn : Func} {p q : Tmp} {ty : TypeId} (h : fn.results = #[.cell p ty, .tmp q]) {tmps : Array Value} {w : World} {a : Addr} {v u : Value}
    (hp : tmps.getD p undef = .pointer (some a)) (hl : (ldv ty a).run Tryz.prog w = .ok v w) (hq : tmps.getD q undef = u) : (results fn tmps).run Tryz.prog w = .ok (.tuple #[v, u]) w := by
  rw [← ldv_eq] at hl
  simp only [results, h, Array.getD_eq_getD_getElem?] at hp hq ⊢
  simp [hp, hq, asAddr, hl, Sem.run_bind, Result.andThen]
def clOk (c : Cl) : Bool := decide (c.data.size ≤ 12) && (c.set || c.data.toList.isEmpty)
def clEq (a b : Cl) : Bool := a.set == b.set && a.data.toList == b.data.toList


end Go.Proofs.YtcjmejokgoefkaaGreat
