/- The walks of the package change and of its reference: which cells and changes are valid, inverting, joining and applying. Each contract holds for every argument. -/
import Derived.Test.YtiebdcejlkeoiaaBase
namespace Go.Proofs.Ytiebdcejlkeoiaa
open Go.RowKit

def pagedB (n : Int) : Bool := decide (0 ≤ n) && decide (n < 64)
def clOk (c : Cl) : Bool := decide (c.data.size ≤ 12) && (c.set || c.data.toList.isEmpty)
def slotB (s : Int) : Bool := decide (0 ≤ s) && decide (s < 16)
def chOk (x : Ch) : Bool := pagedB x.page && slotB x.slot && clOk x.before && clOk x.after
def clEq (a b : Cl) : Bool := a.set == b.set && a.data.toList == b.data.toList

set_option maxHeartbeats 400000 in
theorem paged_any (n : Int) (w : World) : Calls Try.prog 47 #[.int .i64 n] w fun e w' => e = .returned (.bool (pagedB n)) ∧ w = w' := by
  go_enter Try.func47, Try.ntmps47
  go_wp2
  all_goals (go_ret; exact ⟨by congr 2; simp [pagedB]; omega, rfl⟩)

set_option maxHeartbeats 400000 in
theorem validCell24 (c : Cl) (w : World) : Calls Try.prog 24 #[.agg #[.bool c.set, .string c.data]] w fun e w' => e = .returned (.bool (clOk c)) ∧ Below w.heap.size w w' := by
  obtain ⟨s, d⟩ := c
  cases s <;> go_enter Try.func24, Try.ntmps24 <;> go_wp2
  all_goals (go_ret; exact ⟨by congr 2; simp [clOk]; try omega, (Below.refl _ _).alloc (Nat.le_refl _) _⟩)
set_option maxHeartbeats 400000 in
theorem validCell25 (c : Cl) (w : World) : Calls Try.prog 25 #[.agg #[.bool c.set, .string c.data]] w fun e w' => e = .returned (.bool (clOk c)) ∧ Below w.heap.size w w' := by
  obtain ⟨s, d⟩ := c
  cases s <;> go_enter Try.func25, Try.ntmps25 <;> go_wp2
  all_goals (go_ret; exact ⟨by congr 2; simp [clOk]; try omega, (Below.refl _ _).alloc (Nat.le_refl _) _⟩)

theorem ret_bool {a b : Bool} (h : a = b) : Ending.returned (.bool a) = .returned (.bool b) := by rw [h]

set_option maxHeartbeats 2000000 in
theorem valid20 (x : Ch) (w : World) : Calls Try.prog 20 #[.agg #[.int .i64 x.page, .int .i64 x.slot, .bool x.before.set, .string x.before.data, .bool x.after.set, .string x.after.data]] w
    fun e w' => e = .returned (.bool (chOk x)) ∧ Below w.heap.size w w' := by
  obtain ⟨p, s, ⟨bs, bd⟩, ⟨zs, zd⟩⟩ := x
  go_enter Try.func20, Try.ntmps20
  go_wp2
  all_goals (go_ret; refine ⟨ret_bool (by first | (simp [chOk, clOk, pagedB, slotB, *]; done) | (simp [chOk, clOk, pagedB, slotB, *]; omega) | (rw [Bool.eq_iff_iff]; simp [chOk, clOk, pagedB, slotB, *]; exact ⟨fun h => ⟨by omega, by omega, h⟩, fun h => h.2.2⟩)), ?_⟩; repeat (first | exact Below.refl _ _ | refine Below.alloc ?_ (by simp <;> omega) _ | refine Below.trans ?_ (by assumption)))

set_option maxHeartbeats 2000000 in
theorem valid21 (x : Ch) (w : World) : Calls Try.prog 21 #[.agg #[.int .i64 x.page, .int .i64 x.slot, .bool x.before.set, .string x.before.data, .bool x.after.set, .string x.after.data]] w
    fun e w' => e = .returned (.bool (chOk x)) ∧ Below w.heap.size w w' := by
  obtain ⟨p, s, ⟨bs, bd⟩, ⟨zs, zd⟩⟩ := x
  go_enter Try.func21, Try.ntmps21
  go_wp2
  all_goals (go_ret; refine ⟨ret_bool (by first | (simp [chOk, clOk, pagedB, slotB, *]; done) | (simp [chOk, clOk, pagedB, slotB, *]; omega) | (rw [Bool.eq_iff_iff]; simp [chOk, clOk, pagedB, slotB, *]; exact ⟨fun h => ⟨by omega, by omega, h⟩, fun h => h.2.2⟩)), ?_⟩; repeat (first | exact Below.refl _ _ | refine Below.alloc ?_ (by simp <;> omega) _ | refine Below.trans ?_ (by assumption)))

/-- The change back. -/
def Ch.inv (x : Ch) : Ch := { x with before := x.after, after := x.before }
def zCh : Ch := ⟨0, 0, zCl, zCl⟩
def joinF (a b : Ch) : Ch × Int :=
  if chOk a = false ∨ chOk b = false then (zCh, 22)
  else if a.page ≠ b.page ∨ a.slot ≠ b.slot then (zCh, 6)
  else if clEq a.after b.before = false then (zCh, 20)
  else ({ a with after := b.after }, 0)
def applyF (p : Pg) (x : Ch) : Pg × Int :=
  if chOk x = false then (zPg, 22)
  else if x.page ≠ p.id then (zPg, 6)
  else if clEq (p.cell x.slot.toNat) x.before = false then (zPg, 20)
  else (p.upd x.slot.toNat x.after, 0)

set_option maxHeartbeats 400000 in
theorem inverse22 (x : Ch) (w : World) : Calls Try.prog 22 #[.agg #[.int .i64 x.page, .int .i64 x.slot, .bool x.before.set, .string x.before.data, .bool x.after.set, .string x.after.data]] w
    fun e w' => e = .returned (Ch.v x.inv) ∧ Below w.heap.size w w' := by
  obtain ⟨p, s, ⟨bs, bd⟩, ⟨zs, zd⟩⟩ := x
  go_enter Try.func22, Try.ntmps22
  go_wp2
  refine bodyPost_ret (v := Ch.v ⟨p, s, ⟨zs, zd⟩, ⟨bs, bd⟩⟩) (by simp [results, Try.results22, Ch.v, go_sem]) rfl ⟨rfl, ?_⟩
  repeat (first | exact Below.refl _ _ | refine Below.alloc ?_ (by simp <;> omega) _ | refine Below.trans ?_ (by assumption))

set_option maxHeartbeats 400000 in
theorem inverse23 (x : Ch) (w : World) : Calls Try.prog 23 #[.agg #[.int .i64 x.page, .int .i64 x.slot, .bool x.before.set, .string x.before.data, .bool x.after.set, .string x.after.data]] w
    fun e w' => e = .returned (Ch.v x.inv) ∧ Below w.heap.size w w' := by
  obtain ⟨p, s, ⟨bs, bd⟩, ⟨zs, zd⟩⟩ := x
  go_enter Try.func23, Try.ntmps23
  go_wp2
  refine bodyPost_ret (v := Ch.v ⟨p, s, ⟨zs, zd⟩, ⟨bs, bd⟩⟩) (by simp [results, Try.results23, Ch.v, go_sem]) rfl ⟨rfl, ?_⟩
  repeat (first | exact Below.refl _ _ | refine Below.alloc ?_ (by simp <;> omega) _ | refine Below.trans ?_ (by assumption))

end Go.Proofs.Ytiebdcejlkeoiaa
