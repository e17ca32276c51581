/- Applying a change to a page: what the package and its reference compute, for every page and change. -/
import Derived.Test.YtiebdcejlkeoiaaChg
namespace Go.Proofs.Ytiebdcejlkeoiaa
open Go.RowKit
set_option linter.unusedSimpArgs false

theorem Below_drewN {B : Nat} {a w : World} (h : Below B a w) (n : Nat) : Below B a (w.drewN n) := ⟨h.os, h.tape, h.output, h.size, h.block⟩

set_option maxHeartbeats 1000000 in
theorem apply27_a (p : Pg) (x : Ch) (w : World) (hx : chOk x = false) : Calls Try.prog 27 #[.agg (pgA p), .agg #[.int .i64 x.page, .int .i64 x.slot, .bool x.before.set, .string x.before.data, .bool x.after.set, .string x.after.data]] w
    fun e w' => e = .returned (.tuple #[.agg (pgA zPg), .int .i64 22]) ∧ Below w.heap.size w w' := by
  go_enter Try.func27, Try.ntmps27
  go_wp2_with fail
  refine (valid20 x _).mono ?_
  rintro e w1 ⟨rfl, hb1⟩
  rw [hx]
  obtain ⟨f11, f12, f13, f14, f15⟩ := bfacts hb1
  simp only [World.size_alloc] at f11 f12 f13 f14 f15
  have r0 : rowAt w1 w.heap.size = pgA p := by
    rw [f13 _ (by omega)]; simp [go_sem]; try (intro h; omega)
  have r2 : rowAt w1 (w.heap.size + 1 + 1) = pgA zPg := by
    rw [f13 _ (by omega)]; simp [go_sem]; try (intro h; omega)
  have l2 : live w1 (w.heap.size + 1 + 1) = true := by
    rw [f14 _ (by omega)]; simp [go_sem]; try (intro h; omega)
  clear f13 f14
  go_wp2_with fail
  refine bodyPost_ret (v := .tuple #[.agg (pgA zPg), .int .i64 22]) (results_ct rfl rfl (by simp (maxDischargeDepth := 6) [go_sem, r0, r2, l2]) rfl) rfl ⟨rfl, ?_⟩
  repeat (first | exact Below.refl _ _ | refine Below.alloc ?_ (by first | omega | (simp <;> omega)) _ | refine Go.below_setRow ?_ (by first | omega | (simp <;> omega)) _ | refine Below.setCell ?_ (by first | (simp <;> omega) | (dsimp only; omega)) _ | refine Below_drewN ?_ _ | refine Below.trans ?_ (hb1.mono (by first | omega | (simp <;> omega))))

set_option maxHeartbeats 1000000 in
theorem apply27_b (p : Pg) (x : Ch) (w : World) (hx : chOk x = true) (h : x.page ≠ p.id) : Calls Try.prog 27 #[.agg (pgA p), .agg #[.int .i64 x.page, .int .i64 x.slot, .bool x.before.set, .string x.before.data, .bool x.after.set, .string x.after.data]] w
    fun e w' => e = .returned (.tuple #[.agg (pgA zPg), .int .i64 6]) ∧ Below w.heap.size w w' := by
  have e1 : (x.page != p.id) = true := by simpa using h
  go_enter Try.func27, Try.ntmps27
  go_wp2_with fail
  refine (valid20 x _).mono ?_
  rintro e w1 ⟨rfl, hb1⟩
  rw [hx]
  obtain ⟨f11, f12, f13, f14, f15⟩ := bfacts hb1
  simp only [World.size_alloc] at f11 f12 f13 f14 f15
  have r0 : rowAt w1 w.heap.size = pgA p := by
    rw [f13 _ (by omega)]; simp [go_sem]; try (intro h; omega)
  have r2 : rowAt w1 (w.heap.size + 1 + 1) = pgA zPg := by
    rw [f13 _ (by omega)]; simp [go_sem]; try (intro h; omega)
  have l2 : live w1 (w.heap.size + 1 + 1) = true := by
    rw [f14 _ (by omega)]; simp [go_sem]; try (intro h; omega)
  clear f13 f14
  go_wp2_with fail
  refine bodyPost_ret (v := .tuple #[.agg (pgA zPg), .int .i64 6]) (results_ct rfl rfl (by simp (maxDischargeDepth := 6) [go_sem, r0, r2, l2]) rfl) rfl ⟨rfl, ?_⟩
  repeat (first | exact Below.refl _ _ | refine Below.alloc ?_ (by first | omega | (simp <;> omega)) _ | refine Go.below_setRow ?_ (by first | omega | (simp <;> omega)) _ | refine Below.setCell ?_ (by first | (simp <;> omega) | (dsimp only; omega)) _ | refine Below_drewN ?_ _ | refine Below.trans ?_ (hb1.mono (by first | omega | (simp <;> omega))))

set_option maxHeartbeats 1000000 in
theorem apply27_c (p : Pg) (xp : Int) (s : Nat) (xb xa : Cl) (w : World) (hx : chOk ⟨xp, (s : Int), xb, xa⟩ = true) (h : xp = p.id) (hs : s < 16) (h3 : ((p.cell s).set == xb.set) = false) : Calls Try.prog 27 #[.agg (pgA p), .agg #[.int .i64 xp, .int .i64 (s : Int), .bool xb.set, .string xb.data, .bool xa.set, .string xa.data]] w
    fun e w' => e = .returned (.tuple #[.agg (pgA zPg), .int .i64 20]) ∧ Below w.heap.size w w' := by
  have e1 : (xp != p.id) = false := by simpa using h
  clear h
  have e2 := pgA_s p s hs
  have e3 := pgA_d p s hs
  go_enter Try.func27, Try.ntmps27
  go_wp2_with fail
  refine (valid20 ⟨xp, (s : Int), xb, xa⟩ _).mono ?_
  rintro e w1 ⟨rfl, hb1⟩
  rw [hx]
  obtain ⟨f11, f12, f13, f14, f15⟩ := bfacts hb1
  simp only [World.size_alloc] at f11 f12 f13 f14 f15
  have r0 : rowAt w1 w.heap.size = pgA p := by
    rw [f13 _ (by omega)]; simp [go_sem]; try (intro h; omega)
  have r2 : rowAt w1 (w.heap.size + 1 + 1) = pgA zPg := by
    rw [f13 _ (by omega)]; simp [go_sem]; try (intro h; omega)
  have l2 : live w1 (w.heap.size + 1 + 1) = true := by
    rw [f14 _ (by omega)]; simp [go_sem]; try (intro h; omega)
  clear f13 f14
  go_wp2_with fail
  go_quiet (fail)
  go_wp2_with fail
  refine bodyPost_ret (v := .tuple #[.agg (pgA zPg), .int .i64 20]) (results_ct rfl rfl (by simp (maxDischargeDepth := 6) [go_sem, r0, r2, l2]) rfl) rfl ⟨rfl, ?_⟩
  repeat (first | exact Below.refl _ _ | refine Below.alloc ?_ (by first | omega | (simp <;> omega)) _ | refine Go.below_setRow ?_ (by first | omega | (simp <;> omega)) _ | refine Below.setCell ?_ (by first | (simp <;> omega) | (dsimp only; omega)) _ | refine Below_drewN ?_ _ | refine Below.trans ?_ (hb1.mono (by first | omega | (simp <;> omega))))

set_option maxHeartbeats 1000000 in
theorem apply27_d (p : Pg) (xp : Int) (s : Nat) (xb xa : Cl) (w : World) (hx : chOk ⟨xp, (s : Int), xb, xa⟩ = true) (h : xp = p.id) (hs : s < 16) (h3 : ((p.cell s).set == xb.set) = true) (h4 : ((p.cell s).data.toList == xb.data.toList) = false) : Calls Try.prog 27 #[.agg (pgA p), .agg #[.int .i64 xp, .int .i64 (s : Int), .bool xb.set, .string xb.data, .bool xa.set, .string xa.data]] w
    fun e w' => e = .returned (.tuple #[.agg (pgA zPg), .int .i64 20]) ∧ Below w.heap.size w w' := by
  have e1 : (xp != p.id) = false := by simpa using h
  clear h
  have e2 := pgA_s p s hs
  have e3 := pgA_d p s hs
  go_enter Try.func27, Try.ntmps27
  go_wp2_with fail
  refine (valid20 ⟨xp, (s : Int), xb, xa⟩ _).mono ?_
  rintro e w1 ⟨rfl, hb1⟩
  rw [hx]
  obtain ⟨f11, f12, f13, f14, f15⟩ := bfacts hb1
  simp only [World.size_alloc] at f11 f12 f13 f14 f15
  have r0 : rowAt w1 w.heap.size = pgA p := by
    rw [f13 _ (by omega)]; simp [go_sem]; try (intro h; omega)
  have r2 : rowAt w1 (w.heap.size + 1 + 1) = pgA zPg := by
    rw [f13 _ (by omega)]; simp [go_sem]; try (intro h; omega)
  have l2 : live w1 (w.heap.size + 1 + 1) = true := by
    rw [f14 _ (by omega)]; simp [go_sem]; try (intro h; omega)
  clear f13 f14
  go_wp2_with fail
  go_quiet (fail)
  go_wp2_with fail
  refine bodyPost_ret (v := .tuple #[.agg (pgA zPg), .int .i64 20]) (results_ct rfl rfl (by simp (maxDischargeDepth := 6) [go_sem, r0, r2, l2]) rfl) rfl ⟨rfl, ?_⟩
  repeat (first | exact Below.refl _ _ | refine Below.alloc ?_ (by first | omega | (simp <;> omega)) _ | refine Go.below_setRow ?_ (by first | omega | (simp <;> omega)) _ | refine Below.setCell ?_ (by first | (simp <;> omega) | (dsimp only; omega)) _ | refine Below_drewN ?_ _ | refine Below.trans ?_ (hb1.mono (by first | omega | (simp <;> omega))))

set_option maxHeartbeats 1000000 in
theorem apply27_e (p : Pg) (xp : Int) (s : Nat) (xb xa : Cl) (w : World) (hx : chOk ⟨xp, (s : Int), xb, xa⟩ = true) (h : xp = p.id) (hs : s < 16) (h3 : ((p.cell s).set == xb.set) = true) (h4 : ((p.cell s).data.toList == xb.data.toList) = true) : Calls Try.prog 27 #[.agg (pgA p), .agg #[.int .i64 xp, .int .i64 (s : Int), .bool xb.set, .string xb.data, .bool xa.set, .string xa.data]] w
    fun e w' => e = .returned (.tuple #[.agg (pgA (p.upd s xa)), .int .i64 0]) ∧ Below w.heap.size w w' := by
  have e1 : (xp != p.id) = false := by simpa using h
  clear h
  have e2 := pgA_s p s hs
  have e3 := pgA_d p s hs
  have e4 := pgA_upd p s xa.set xa.data hs
  go_enter Try.func27, Try.ntmps27
  go_wp2_with fail
  refine (valid20 ⟨xp, (s : Int), xb, xa⟩ _).mono ?_
  rintro e w1 ⟨rfl, hb1⟩
  rw [hx]
  obtain ⟨f11, f12, f13, f14, f15⟩ := bfacts hb1
  simp only [World.size_alloc] at f11 f12 f13 f14 f15
  have r0 : rowAt w1 w.heap.size = pgA p := by
    rw [f13 _ (by omega)]; simp [go_sem]; try (intro h; omega)
  have r2 : rowAt w1 (w.heap.size + 1 + 1) = pgA zPg := by
    rw [f13 _ (by omega)]; simp [go_sem]; try (intro h; omega)
  have l2 : live w1 (w.heap.size + 1 + 1) = true := by
    rw [f14 _ (by omega)]; simp [go_sem]; try (intro h; omega)
  clear f13 f14
  go_wp2_with fail
  go_quiet (fail)
  go_wp2_with fail
  refine bodyPost_ret (v := .tuple #[.agg (pgA (p.upd s xa)), .int .i64 0]) (results_ct rfl rfl (by simp (maxDischargeDepth := 6) [go_sem, r0, r2, l2]) rfl) rfl ⟨rfl, ?_⟩
  repeat (first | exact Below.refl _ _ | refine Below.alloc ?_ (by first | omega | (simp <;> omega)) _ | refine Go.below_setRow ?_ (by first | omega | (simp <;> omega)) _ | refine Below.setCell ?_ (by first | (simp <;> omega) | (dsimp only; omega)) _ | refine Below_drewN ?_ _ | refine Below.trans ?_ (hb1.mono (by first | omega | (simp <;> omega))))

theorem apply27 (p : Pg) (x : Ch) (w : World) : Calls Try.prog 27 #[.agg (pgA p), .agg #[.int .i64 x.page, .int .i64 x.slot, .bool x.before.set, .string x.before.data, .bool x.after.set, .string x.after.data]] w
    fun e w' => e = .returned (.tuple #[.agg (pgA (applyF p x).1), .int .i64 (applyF p x).2]) ∧ Below w.heap.size w w' := by
  unfold applyF
  by_cases hx : chOk x = false
  · rw [if_pos hx]; exact apply27_a p x w hx
  rw [if_neg hx]
  have hx' : chOk x = true := by simpa using hx
  by_cases h : x.page = p.id
  case neg => rw [if_pos h]; exact apply27_b p x w hx' h
  rw [if_neg (by simp [h])]
  have hs : 0 ≤ x.slot ∧ x.slot < 16 := by
    simp only [chOk, slotB, Bool.and_eq_true, decide_eq_true_eq] at hx'
    exact hx'.1.1.2
  obtain ⟨xp, xs, xb, xa⟩ := x
  obtain ⟨s, rfl⟩ : ∃ s : Nat, xs = s := ⟨xs.toNat, by dsimp only at hs; omega⟩
  dsimp only at hs h
  simp only [Int.toNat_natCast]
  cases h3 : ((p.cell s).set == xb.set) with
  | false => rw [if_pos (by simp only [clEq, h3, Bool.false_and])]; exact apply27_c p xp s xb xa w hx' h (by omega) h3
  | true =>
    cases h4 : ((p.cell s).data.toList == xb.data.toList) with
    | false => rw [if_pos (by simp only [clEq, h4, Bool.and_false])]; exact apply27_d p xp s xb xa w hx' h (by omega) h3 h4
    | true => rw [if_neg (by simp only [clEq, h3, h4]; decide)]; exact apply27_e p xp s xb xa w hx' h (by omega) h3 h4

set_option maxHeartbeats 1000000 in
theorem apply28_a (p : Pg) (x : Ch) (w : World) (hx : chOk x = false) : Calls Try.prog 28 #[.agg (pgA p), .agg #[.int .i64 x.page, .int .i64 x.slot, .bool x.before.set, .string x.before.data, .bool x.after.set, .string x.after.data]] w
    fun e w' => e = .returned (.tuple #[.agg (pgA zPg), .int .i64 22]) ∧ Below w.heap.size w w' := by
  go_enter Try.func28, Try.ntmps28
  go_wp2_with fail
  refine (valid21 x _).mono ?_
  rintro e w1 ⟨rfl, hb1⟩
  rw [hx]
  obtain ⟨f11, f12, f13, f14, f15⟩ := bfacts hb1
  simp only [World.size_alloc] at f11 f12 f13 f14 f15
  have r0 : rowAt w1 w.heap.size = pgA p := by
    rw [f13 _ (by omega)]; simp [go_sem]; try (intro h; omega)
  have r2 : rowAt w1 (w.heap.size + 1 + 1) = pgA zPg := by
    rw [f13 _ (by omega)]; simp [go_sem]; try (intro h; omega)
  have l2 : live w1 (w.heap.size + 1 + 1) = true := by
    rw [f14 _ (by omega)]; simp [go_sem]; try (intro h; omega)
  clear f13 f14
  go_wp2_with fail
  refine bodyPost_ret (v := .tuple #[.agg (pgA zPg), .int .i64 22]) (results_ct rfl rfl (by simp (maxDischargeDepth := 6) [go_sem, r0, r2, l2]) rfl) rfl ⟨rfl, ?_⟩
  repeat (first | exact Below.refl _ _ | refine Below.alloc ?_ (by first | omega | (simp <;> omega)) _ | refine Go.below_setRow ?_ (by first | omega | (simp <;> omega)) _ | refine Below.setCell ?_ (by first | (simp <;> omega) | (dsimp only; omega)) _ | refine Below_drewN ?_ _ | refine Below.trans ?_ (hb1.mono (by first | omega | (simp <;> omega))))

set_option maxHeartbeats 1000000 in
theorem apply28_b (p : Pg) (x : Ch) (w : World) (hx : chOk x = true) (h : x.page ≠ p.id) : Calls Try.prog 28 #[.agg (pgA p), .agg #[.int .i64 x.page, .int .i64 x.slot, .bool x.before.set, .string x.before.data, .bool x.after.set, .string x.after.data]] w
    fun e w' => e = .returned (.tuple #[.agg (pgA zPg), .int .i64 6]) ∧ Below w.heap.size w w' := by
  have e1 : (x.page != p.id) = true := by simpa using h
  go_enter Try.func28, Try.ntmps28
  go_wp2_with fail
  refine (valid21 x _).mono ?_
  rintro e w1 ⟨rfl, hb1⟩
  rw [hx]
  obtain ⟨f11, f12, f13, f14, f15⟩ := bfacts hb1
  simp only [World.size_alloc] at f11 f12 f13 f14 f15
  have r0 : rowAt w1 w.heap.size = pgA p := by
    rw [f13 _ (by omega)]; simp [go_sem]; try (intro h; omega)
  have r2 : rowAt w1 (w.heap.size + 1 + 1) = pgA zPg := by
    rw [f13 _ (by omega)]; simp [go_sem]; try (intro h; omega)
  have l2 : live w1 (w.heap.size + 1 + 1) = true := by
    rw [f14 _ (by omega)]; simp [go_sem]; try (intro h; omega)
  clear f13 f14
  go_wp2_with fail
  refine bodyPost_ret (v := .tuple #[.agg (pgA zPg), .int .i64 6]) (results_ct rfl rfl (by simp (maxDischargeDepth := 6) [go_sem, r0, r2, l2]) rfl) rfl ⟨rfl, ?_⟩
  repeat (first | exact Below.refl _ _ | refine Below.alloc ?_ (by first | omega | (simp <;> omega)) _ | refine Go.below_setRow ?_ (by first | omega | (simp <;> omega)) _ | refine Below.setCell ?_ (by first | (simp <;> omega) | (dsimp only; omega)) _ | refine Below_drewN ?_ _ | refine Below.trans ?_ (hb1.mono (by first | omega | (simp <;> omega))))

set_option maxHeartbeats 1000000 in
theorem apply28_c (p : Pg) (xp : Int) (s : Nat) (xb xa : Cl) (w : World) (hx : chOk ⟨xp, (s : Int), xb, xa⟩ = true) (h : xp = p.id) (hs : s < 16) (h3 : ((p.cell s).set == xb.set) = false) : Calls Try.prog 28 #[.agg (pgA p), .agg #[.int .i64 xp, .int .i64 (s : Int), .bool xb.set, .string xb.data, .bool xa.set, .string xa.data]] w
    fun e w' => e = .returned (.tuple #[.agg (pgA zPg), .int .i64 20]) ∧ Below w.heap.size w w' := by
  have e1 : (xp != p.id) = false := by simpa using h
  clear h
  have e2 := pgA_s p s hs
  have e3 := pgA_d p s hs
  go_enter Try.func28, Try.ntmps28
  go_wp2_with fail
  refine (valid21 ⟨xp, (s : Int), xb, xa⟩ _).mono ?_
  rintro e w1 ⟨rfl, hb1⟩
  rw [hx]
  obtain ⟨f11, f12, f13, f14, f15⟩ := bfacts hb1
  simp only [World.size_alloc] at f11 f12 f13 f14 f15
  have r0 : rowAt w1 w.heap.size = pgA p := by
    rw [f13 _ (by omega)]; simp [go_sem]; try (intro h; omega)
  have r2 : rowAt w1 (w.heap.size + 1 + 1) = pgA zPg := by
    rw [f13 _ (by omega)]; simp [go_sem]; try (intro h; omega)
  have l2 : live w1 (w.heap.size + 1 + 1) = true := by
    rw [f14 _ (by omega)]; simp [go_sem]; try (intro h; omega)
  clear f13 f14
  go_wp2_with fail
  go_quiet (fail)
  go_wp2_with fail
  refine bodyPost_ret (v := .tuple #[.agg (pgA zPg), .int .i64 20]) (results_ct rfl rfl (by simp (maxDischargeDepth := 6) [go_sem, r0, r2, l2]) rfl) rfl ⟨rfl, ?_⟩
  repeat (first | exact Below.refl _ _ | refine Below.alloc ?_ (by first | omega | (simp <;> omega)) _ | refine Go.below_setRow ?_ (by first | omega | (simp <;> omega)) _ | refine Below.setCell ?_ (by first | (simp <;> omega) | (dsimp only; omega)) _ | refine Below_drewN ?_ _ | refine Below.trans ?_ (hb1.mono (by first | omega | (simp <;> omega))))

set_option maxHeartbeats 1000000 in
theorem apply28_d (p : Pg) (xp : Int) (s : Nat) (xb xa : Cl) (w : World) (hx : chOk ⟨xp, (s : Int), xb, xa⟩ = true) (h : xp = p.id) (hs : s < 16) (h3 : ((p.cell s).set == xb.set) = true) (h4 : ((p.cell s).data.toList == xb.data.toList) = false) : Calls Try.prog 28 #[.agg (pgA p), .agg #[.int .i64 xp, .int .i64 (s : Int), .bool xb.set, .string xb.data, .bool xa.set, .string xa.data]] w
    fun e w' => e = .returned (.tuple #[.agg (pgA zPg), .int .i64 20]) ∧ Below w.heap.size w w' := by
  have e1 : (xp != p.id) = false := by simpa using h
  clear h
  have e2 := pgA_s p s hs
  have e3 := pgA_d p s hs
  go_enter Try.func28, Try.ntmps28
  go_wp2_with fail
  refine (valid21 ⟨xp, (s : Int), xb, xa⟩ _).mono ?_
  rintro e w1 ⟨rfl, hb1⟩
  rw [hx]
  obtain ⟨f11, f12, f13, f14, f15⟩ := bfacts hb1
  simp only [World.size_alloc] at f11 f12 f13 f14 f15
  have r0 : rowAt w1 w.heap.size = pgA p := by
    rw [f13 _ (by omega)]; simp [go_sem]; try (intro h; omega)
  have r2 : rowAt w1 (w.heap.size + 1 + 1) = pgA zPg := by
    rw [f13 _ (by omega)]; simp [go_sem]; try (intro h; omega)
  have l2 : live w1 (w.heap.size + 1 + 1) = true := by
    rw [f14 _ (by omega)]; simp [go_sem]; try (intro h; omega)
  clear f13 f14
  go_wp2_with fail
  go_quiet (fail)
  go_wp2_with fail
  refine bodyPost_ret (v := .tuple #[.agg (pgA zPg), .int .i64 20]) (results_ct rfl rfl (by simp (maxDischargeDepth := 6) [go_sem, r0, r2, l2]) rfl) rfl ⟨rfl, ?_⟩
  repeat (first | exact Below.refl _ _ | refine Below.alloc ?_ (by first | omega | (simp <;> omega)) _ | refine Go.below_setRow ?_ (by first | omega | (simp <;> omega)) _ | refine Below.setCell ?_ (by first | (simp <;> omega) | (dsimp only; omega)) _ | refine Below_drewN ?_ _ | refine Below.trans ?_ (hb1.mono (by first | omega | (simp <;> omega))))

set_option maxHeartbeats 1000000 in
theorem apply28_e (p : Pg) (xp : Int) (s : Nat) (xb xa : Cl) (w : World) (hx : chOk ⟨xp, (s : Int), xb, xa⟩ = true) (h : xp = p.id) (hs : s < 16) (h3 : ((p.cell s).set == xb.set) = true) (h4 : ((p.cell s).data.toList == xb.data.toList) = true) : Calls Try.prog 28 #[.agg (pgA p), .agg #[.int .i64 xp, .int .i64 (s : Int), .bool xb.set, .string xb.data, .bool xa.set, .string xa.data]] w
    fun e w' => e = .returned (.tuple #[.agg (pgA (p.upd s xa)), .int .i64 0]) ∧ Below w.heap.size w w' := by
  have e1 : (xp != p.id) = false := by simpa using h
  clear h
  have e2 := pgA_s p s hs
  have e3 := pgA_d p s hs
  have e4 := pgA_upd p s xa.set xa.data hs
  go_enter Try.func28, Try.ntmps28
  go_wp2_with fail
  refine (valid21 ⟨xp, (s : Int), xb, xa⟩ _).mono ?_
  rintro e w1 ⟨rfl, hb1⟩
  rw [hx]
  obtain ⟨f11, f12, f13, f14, f15⟩ := bfacts hb1
  simp only [World.size_alloc] at f11 f12 f13 f14 f15
  have r0 : rowAt w1 w.heap.size = pgA p := by
    rw [f13 _ (by omega)]; simp [go_sem]; try (intro h; omega)
  have r2 : rowAt w1 (w.heap.size + 1 + 1) = pgA zPg := by
    rw [f13 _ (by omega)]; simp [go_sem]; try (intro h; omega)
  have l2 : live w1 (w.heap.size + 1 + 1) = true := by
    rw [f14 _ (by omega)]; simp [go_sem]; try (intro h; omega)
  clear f13 f14
  go_wp2_with fail
  go_quiet (fail)
  go_wp2_with fail
  refine bodyPost_ret (v := .tuple #[.agg (pgA (p.upd s xa)), .int .i64 0]) (results_ct rfl rfl (by simp (maxDischargeDepth := 6) [go_sem, r0, r2, l2]) rfl) rfl ⟨rfl, ?_⟩
  repeat (first | exact Below.refl _ _ | refine Below.alloc ?_ (by first | omega | (simp <;> omega)) _ | refine Go.below_setRow ?_ (by first | omega | (simp <;> omega)) _ | refine Below.setCell ?_ (by first | (simp <;> omega) | (dsimp only; omega)) _ | refine Below_drewN ?_ _ | refine Below.trans ?_ (hb1.mono (by first | omega | (simp <;> omega))))

theorem apply28 (p : Pg) (x : Ch) (w : World) : Calls Try.prog 28 #[.agg (pgA p), .agg #[.int .i64 x.page, .int .i64 x.slot, .bool x.before.set, .string x.before.data, .bool x.after.set, .string x.after.data]] w
    fun e w' => e = .returned (.tuple #[.agg (pgA (applyF p x).1), .int .i64 (applyF p x).2]) ∧ Below w.heap.size w w' := by
  unfold applyF
  by_cases hx : chOk x = false
  · rw [if_pos hx]; exact apply28_a p x w hx
  rw [if_neg hx]
  have hx' : chOk x = true := by simpa using hx
  by_cases h : x.page = p.id
  case neg => rw [if_pos h]; exact apply28_b p x w hx' h
  rw [if_neg (by simp [h])]
  have hs : 0 ≤ x.slot ∧ x.slot < 16 := by
    simp only [chOk, slotB, Bool.and_eq_true, decide_eq_true_eq] at hx'
    exact hx'.1.1.2
  obtain ⟨xp, xs, xb, xa⟩ := x
  obtain ⟨s, rfl⟩ : ∃ s : Nat, xs = s := ⟨xs.toNat, by dsimp only at hs; omega⟩
  dsimp only at hs h
  simp only [Int.toNat_natCast]
  cases h3 : ((p.cell s).set == xb.set) with
  | false => rw [if_pos (by simp only [clEq, h3, Bool.false_and])]; exact apply28_c p xp s xb xa w hx' h (by omega) h3
  | true =>
    cases h4 : ((p.cell s).data.toList == xb.data.toList) with
    | false => rw [if_pos (by simp only [clEq, h4, Bool.and_false])]; exact apply28_d p xp s xb xa w hx' h (by omega) h3 h4
    | true => rw [if_neg (by simp only [clEq, h3, h4]; decide)]; exact apply28_e p xp s xb xa w hx' h (by omega) h3 h4

end Go.Proofs.Ytiebdcejlkeoiaa
