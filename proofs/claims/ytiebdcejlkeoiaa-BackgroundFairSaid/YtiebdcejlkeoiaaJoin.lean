/- Join. -/
import Derived.Test.YtiebdcejlkeoiaaChg
namespace Go.Proofs.Ytiebdcejlkeoiaa
open Go.RowKit
set_option linter.unusedSimpArgs false

theorem bytes_beq_comm (a b : List UInt8) : (a == b) = (b == a) := by rw [Bool.eq_iff_iff]; simp only [beq_iff_eq]; exact eq_comm

set_option maxHeartbeats 1000000 in
theorem join18_a (x y : Ch) (w : World) (hx : chOk x = false) : Calls Try.prog 18 #[.agg #[.int .i64 x.page, .int .i64 x.slot, .bool x.before.set, .string x.before.data, .bool x.after.set, .string x.after.data], .agg #[.int .i64 y.page, .int .i64 y.slot, .bool y.before.set, .string y.before.data, .bool y.after.set, .string y.after.data]] w
    fun e w' => e = .returned (.tuple #[Ch.v zCh, .int .i64 22]) ∧ Below w.heap.size w w' := by
  go_enter Try.func18, Try.ntmps18
  go_wp2_with fail
  refine (valid20 x _).mono ?_
  rintro e w1 ⟨rfl, hb1⟩
  rw [hx]
  obtain ⟨f11, f12, f13, f14, f15⟩ := bfacts hb1
  simp only [World.size_alloc] at f11 f12 f13 f14 f15
  go_wp2_with fail
  refine bodyPost_ret (v := .tuple #[Ch.v zCh, .int .i64 22]) (results_ct rfl rfl (by simp (maxDischargeDepth := 6) [Ch.v, zCh, zCl, go_sem, f13, f14]) rfl) rfl ⟨rfl, ?_⟩
  repeat (first | exact Below.refl _ _ | refine Below.alloc ?_ (by first | omega | (simp <;> omega)) _ | refine Go.below_setRow ?_ (by first | omega | (simp <;> omega)) _ | refine Below.setCell ?_ (by first | (simp <;> omega) | (dsimp only; omega)) _ | refine Below.trans ?_ (hb1.mono (by first | omega | (simp <;> omega))))

set_option maxHeartbeats 1000000 in
theorem join18_b (x y : Ch) (w : World) (hx : chOk x = true) (hy : chOk y = false) : Calls Try.prog 18 #[.agg #[.int .i64 x.page, .int .i64 x.slot, .bool x.before.set, .string x.before.data, .bool x.after.set, .string x.after.data], .agg #[.int .i64 y.page, .int .i64 y.slot, .bool y.before.set, .string y.before.data, .bool y.after.set, .string y.after.data]] w
    fun e w' => e = .returned (.tuple #[Ch.v zCh, .int .i64 22]) ∧ Below w.heap.size w w' := by
  go_enter Try.func18, Try.ntmps18
  go_wp2_with fail
  refine (valid20 x _).mono ?_
  rintro e w1 ⟨rfl, hb1⟩
  rw [hx]
  obtain ⟨f11, f12, f13, f14, f15⟩ := bfacts hb1
  simp only [World.size_alloc] at f11 f12 f13 f14 f15
  go_wp2_with fail
  refine (valid20 y _).mono ?_
  rintro e w2 ⟨rfl, hb2⟩
  rw [hy]
  replace hb2 := hb1.trans (hb2.mono hb1.size)
  clear f11 f12 f13 f14 f15 hb1
  obtain ⟨f21, f22, f23, f24, f25⟩ := bfacts hb2
  simp only [World.size_alloc] at f21 f22 f23 f24 f25
  go_wp2_with fail
  refine bodyPost_ret (v := .tuple #[Ch.v zCh, .int .i64 22]) (results_ct rfl rfl (by simp (maxDischargeDepth := 6) [Ch.v, zCh, zCl, go_sem, f23, f24]) rfl) rfl ⟨rfl, ?_⟩
  repeat (first | exact Below.refl _ _ | refine Below.alloc ?_ (by first | omega | (simp <;> omega)) _ | refine Go.below_setRow ?_ (by first | omega | (simp <;> omega)) _ | refine Below.setCell ?_ (by first | (simp <;> omega) | (dsimp only; omega)) _ | refine Below.trans ?_ (hb2.mono (by first | omega | (simp <;> omega))))

set_option maxHeartbeats 1000000 in
theorem join18_c (x y : Ch) (w : World) (hx : chOk x = true) (hy : chOk y = true) (h : x.page ≠ y.page) : Calls Try.prog 18 #[.agg #[.int .i64 x.page, .int .i64 x.slot, .bool x.before.set, .string x.before.data, .bool x.after.set, .string x.after.data], .agg #[.int .i64 y.page, .int .i64 y.slot, .bool y.before.set, .string y.before.data, .bool y.after.set, .string y.after.data]] w
    fun e w' => e = .returned (.tuple #[Ch.v zCh, .int .i64 6]) ∧ Below w.heap.size w w' := by
  have e1 : (x.page != y.page) = true := by simpa using h
  go_enter Try.func18, Try.ntmps18
  go_wp2_with fail
  refine (valid20 x _).mono ?_
  rintro e w1 ⟨rfl, hb1⟩
  rw [hx]
  obtain ⟨f11, f12, f13, f14, f15⟩ := bfacts hb1
  simp only [World.size_alloc] at f11 f12 f13 f14 f15
  go_wp2_with fail
  refine (valid20 y _).mono ?_
  rintro e w2 ⟨rfl, hb2⟩
  rw [hy]
  replace hb2 := hb1.trans (hb2.mono hb1.size)
  clear f11 f12 f13 f14 f15 hb1
  obtain ⟨f21, f22, f23, f24, f25⟩ := bfacts hb2
  simp only [World.size_alloc] at f21 f22 f23 f24 f25
  go_wp2_with fail
  refine bodyPost_ret (v := .tuple #[Ch.v zCh, .int .i64 6]) (results_ct rfl rfl (by simp (maxDischargeDepth := 6) [Ch.v, zCh, zCl, go_sem, f23, f24]) rfl) rfl ⟨rfl, ?_⟩
  repeat (first | exact Below.refl _ _ | refine Below.alloc ?_ (by first | omega | (simp <;> omega)) _ | refine Go.below_setRow ?_ (by first | omega | (simp <;> omega)) _ | refine Below.setCell ?_ (by first | (simp <;> omega) | (dsimp only; omega)) _ | refine Below.trans ?_ (hb2.mono (by first | omega | (simp <;> omega))))

set_option maxHeartbeats 1000000 in
theorem join18_d (x y : Ch) (w : World) (hx : chOk x = true) (hy : chOk y = true) (h : x.page = y.page) (h2 : x.slot ≠ y.slot) : Calls Try.prog 18 #[.agg #[.int .i64 x.page, .int .i64 x.slot, .bool x.before.set, .string x.before.data, .bool x.after.set, .string x.after.data], .agg #[.int .i64 y.page, .int .i64 y.slot, .bool y.before.set, .string y.before.data, .bool y.after.set, .string y.after.data]] w
    fun e w' => e = .returned (.tuple #[Ch.v zCh, .int .i64 6]) ∧ Below w.heap.size w w' := by
  have e1 : (x.page != y.page) = false := by simpa using h
  have e2 : (x.slot != y.slot) = true := by simpa using h2
  clear h
  go_enter Try.func18, Try.ntmps18
  go_wp2_with fail
  refine (valid20 x _).mono ?_
  rintro e w1 ⟨rfl, hb1⟩
  rw [hx]
  obtain ⟨f11, f12, f13, f14, f15⟩ := bfacts hb1
  simp only [World.size_alloc] at f11 f12 f13 f14 f15
  go_wp2_with fail
  refine (valid20 y _).mono ?_
  rintro e w2 ⟨rfl, hb2⟩
  rw [hy]
  replace hb2 := hb1.trans (hb2.mono hb1.size)
  clear f11 f12 f13 f14 f15 hb1
  obtain ⟨f21, f22, f23, f24, f25⟩ := bfacts hb2
  simp only [World.size_alloc] at f21 f22 f23 f24 f25
  go_wp2_with fail
  refine bodyPost_ret (v := .tuple #[Ch.v zCh, .int .i64 6]) (results_ct rfl rfl (by simp (maxDischargeDepth := 6) [Ch.v, zCh, zCl, go_sem, f23, f24]) rfl) rfl ⟨rfl, ?_⟩
  repeat (first | exact Below.refl _ _ | refine Below.alloc ?_ (by first | omega | (simp <;> omega)) _ | refine Go.below_setRow ?_ (by first | omega | (simp <;> omega)) _ | refine Below.setCell ?_ (by first | (simp <;> omega) | (dsimp only; omega)) _ | refine Below.trans ?_ (hb2.mono (by first | omega | (simp <;> omega))))

set_option maxHeartbeats 1000000 in
theorem join18_e (x y : Ch) (w : World) (hx : chOk x = true) (hy : chOk y = true) (h : x.page = y.page) (h2 : x.slot = y.slot) (h3 : (x.after.set == y.before.set) = false) : Calls Try.prog 18 #[.agg #[.int .i64 x.page, .int .i64 x.slot, .bool x.before.set, .string x.before.data, .bool x.after.set, .string x.after.data], .agg #[.int .i64 y.page, .int .i64 y.slot, .bool y.before.set, .string y.before.data, .bool y.after.set, .string y.after.data]] w
    fun e w' => e = .returned (.tuple #[Ch.v zCh, .int .i64 20]) ∧ Below w.heap.size w w' := by
  have e1 : (x.page != y.page) = false := by simpa using h
  have e2 : (x.slot != y.slot) = false := by simpa using h2
  clear h h2
  go_enter Try.func18, Try.ntmps18
  go_wp2_with fail
  refine (valid20 x _).mono ?_
  rintro e w1 ⟨rfl, hb1⟩
  rw [hx]
  obtain ⟨f11, f12, f13, f14, f15⟩ := bfacts hb1
  simp only [World.size_alloc] at f11 f12 f13 f14 f15
  go_wp2_with fail
  refine (valid20 y _).mono ?_
  rintro e w2 ⟨rfl, hb2⟩
  rw [hy]
  replace hb2 := hb1.trans (hb2.mono hb1.size)
  clear f11 f12 f13 f14 f15 hb1
  obtain ⟨f21, f22, f23, f24, f25⟩ := bfacts hb2
  simp only [World.size_alloc] at f21 f22 f23 f24 f25
  go_wp2_with fail
  refine bodyPost_ret (v := .tuple #[Ch.v zCh, .int .i64 20]) (results_ct rfl rfl (by simp (maxDischargeDepth := 6) [Ch.v, zCh, zCl, go_sem, f23, f24]) rfl) rfl ⟨rfl, ?_⟩
  repeat (first | exact Below.refl _ _ | refine Below.alloc ?_ (by first | omega | (simp <;> omega)) _ | refine Go.below_setRow ?_ (by first | omega | (simp <;> omega)) _ | refine Below.setCell ?_ (by first | (simp <;> omega) | (dsimp only; omega)) _ | refine Below.trans ?_ (hb2.mono (by first | omega | (simp <;> omega))))

set_option maxHeartbeats 1000000 in
theorem join18_f (x y : Ch) (w : World) (hx : chOk x = true) (hy : chOk y = true) (h : x.page = y.page) (h2 : x.slot = y.slot) (h3 : (x.after.set == y.before.set) = true) (h4 : (x.after.data.toList == y.before.data.toList) = false) : Calls Try.prog 18 #[.agg #[.int .i64 x.page, .int .i64 x.slot, .bool x.before.set, .string x.before.data, .bool x.after.set, .string x.after.data], .agg #[.int .i64 y.page, .int .i64 y.slot, .bool y.before.set, .string y.before.data, .bool y.after.set, .string y.after.data]] w
    fun e w' => e = .returned (.tuple #[Ch.v zCh, .int .i64 20]) ∧ Below w.heap.size w w' := by
  have e1 : (x.page != y.page) = false := by simpa using h
  have e2 : (x.slot != y.slot) = false := by simpa using h2
  clear h h2
  go_enter Try.func18, Try.ntmps18
  go_wp2_with fail
  refine (valid20 x _).mono ?_
  rintro e w1 ⟨rfl, hb1⟩
  rw [hx]
  obtain ⟨f11, f12, f13, f14, f15⟩ := bfacts hb1
  simp only [World.size_alloc] at f11 f12 f13 f14 f15
  go_wp2_with fail
  refine (valid20 y _).mono ?_
  rintro e w2 ⟨rfl, hb2⟩
  rw [hy]
  replace hb2 := hb1.trans (hb2.mono hb1.size)
  clear f11 f12 f13 f14 f15 hb1
  obtain ⟨f21, f22, f23, f24, f25⟩ := bfacts hb2
  simp only [World.size_alloc] at f21 f22 f23 f24 f25
  go_wp2_with fail
  refine bodyPost_ret (v := .tuple #[Ch.v zCh, .int .i64 20]) (results_ct rfl rfl (by simp (maxDischargeDepth := 6) [Ch.v, zCh, zCl, go_sem, f23, f24]) rfl) rfl ⟨rfl, ?_⟩
  repeat (first | exact Below.refl _ _ | refine Below.alloc ?_ (by first | omega | (simp <;> omega)) _ | refine Go.below_setRow ?_ (by first | omega | (simp <;> omega)) _ | refine Below.setCell ?_ (by first | (simp <;> omega) | (dsimp only; omega)) _ | refine Below.trans ?_ (hb2.mono (by first | omega | (simp <;> omega))))

set_option maxHeartbeats 1000000 in
theorem join18_g (x y : Ch) (w : World) (hx : chOk x = true) (hy : chOk y = true) (h : x.page = y.page) (h2 : x.slot = y.slot) (h3 : (x.after.set == y.before.set) = true) (h4 : (x.after.data.toList == y.before.data.toList) = true) : Calls Try.prog 18 #[.agg #[.int .i64 x.page, .int .i64 x.slot, .bool x.before.set, .string x.before.data, .bool x.after.set, .string x.after.data], .agg #[.int .i64 y.page, .int .i64 y.slot, .bool y.before.set, .string y.before.data, .bool y.after.set, .string y.after.data]] w
    fun e w' => e = .returned (.tuple #[Ch.v { x with after := y.after }, .int .i64 0]) ∧ Below w.heap.size w w' := by
  have e1 : (x.page != y.page) = false := by simpa using h
  have e2 : (x.slot != y.slot) = false := by simpa using h2
  clear h h2
  go_enter Try.func18, Try.ntmps18
  go_wp2_with fail
  refine (valid20 x _).mono ?_
  rintro e w1 ⟨rfl, hb1⟩
  rw [hx]
  obtain ⟨f11, f12, f13, f14, f15⟩ := bfacts hb1
  simp only [World.size_alloc] at f11 f12 f13 f14 f15
  go_wp2_with fail
  refine (valid20 y _).mono ?_
  rintro e w2 ⟨rfl, hb2⟩
  rw [hy]
  replace hb2 := hb1.trans (hb2.mono hb1.size)
  clear f11 f12 f13 f14 f15 hb1
  obtain ⟨f21, f22, f23, f24, f25⟩ := bfacts hb2
  simp only [World.size_alloc] at f21 f22 f23 f24 f25
  have r0 : rowAt w2 w.heap.size = #[.int .i64 x.page, .int .i64 x.slot, .bool x.before.set, .string x.before.data, .bool x.after.set, .string x.after.data] := by
    rw [f23 _ (by omega)]; simp [go_sem]; try (intro h; omega)
  have r2 : rowAt w2 (w.heap.size + 1 + 1) = #[.int .i64 0, .int .i64 0, .bool false, .string ⟨#[]⟩, .bool false, .string ⟨#[]⟩] := by
    rw [f23 _ (by omega)]; simp [go_sem]; try (intro h; omega)
  have l2 : live w2 (w.heap.size + 1 + 1) = true := by
    rw [f24 _ (by omega)]; simp [go_sem]; try (intro h; omega)
  clear f23 f24
  go_wp2_with fail
  refine bodyPost_ret (v := .tuple #[Ch.v { x with after := y.after }, .int .i64 0]) (results_ct rfl rfl (by simp (maxDischargeDepth := 6) [Ch.v, zCh, zCl, go_sem, r0, r2, l2]) rfl) rfl ⟨rfl, ?_⟩
  repeat (first | exact Below.refl _ _ | refine Below.alloc ?_ (by first | omega | (simp <;> omega)) _ | refine Go.below_setRow ?_ (by first | omega | (simp <;> omega)) _ | refine Below.setCell ?_ (by first | (simp <;> omega) | (dsimp only; omega)) _ | refine Below.trans ?_ (hb2.mono (by first | omega | (simp <;> omega))))

set_option maxHeartbeats 1000000 in
theorem join19_a (x y : Ch) (w : World) (hx : chOk x = false) : Calls Try.prog 19 #[.agg #[.int .i64 x.page, .int .i64 x.slot, .bool x.before.set, .string x.before.data, .bool x.after.set, .string x.after.data], .agg #[.int .i64 y.page, .int .i64 y.slot, .bool y.before.set, .string y.before.data, .bool y.after.set, .string y.after.data]] w
    fun e w' => e = .returned (.tuple #[Ch.v zCh, .int .i64 22]) ∧ Below w.heap.size w w' := by
  go_enter Try.func19, Try.ntmps19
  go_wp2_with fail
  refine (valid21 x _).mono ?_
  rintro e w1 ⟨rfl, hb1⟩
  rw [hx]
  obtain ⟨f11, f12, f13, f14, f15⟩ := bfacts hb1
  simp only [World.size_alloc] at f11 f12 f13 f14 f15
  go_wp2_with fail
  refine bodyPost_ret (v := .tuple #[Ch.v zCh, .int .i64 22]) (results_ct rfl rfl (by simp (maxDischargeDepth := 6) [Ch.v, zCh, zCl, go_sem, f13, f14]) rfl) rfl ⟨rfl, ?_⟩
  repeat (first | exact Below.refl _ _ | refine Below.alloc ?_ (by first | omega | (simp <;> omega)) _ | refine Go.below_setRow ?_ (by first | omega | (simp <;> omega)) _ | refine Below.setCell ?_ (by first | (simp <;> omega) | (dsimp only; omega)) _ | refine Below.trans ?_ (hb1.mono (by first | omega | (simp <;> omega))))

set_option maxHeartbeats 1000000 in
theorem join19_b (x y : Ch) (w : World) (hx : chOk x = true) (hy : chOk y = false) : Calls Try.prog 19 #[.agg #[.int .i64 x.page, .int .i64 x.slot, .bool x.before.set, .string x.before.data, .bool x.after.set, .string x.after.data], .agg #[.int .i64 y.page, .int .i64 y.slot, .bool y.before.set, .string y.before.data, .bool y.after.set, .string y.after.data]] w
    fun e w' => e = .returned (.tuple #[Ch.v zCh, .int .i64 22]) ∧ Below w.heap.size w w' := by
  go_enter Try.func19, Try.ntmps19
  go_wp2_with fail
  refine (valid21 x _).mono ?_
  rintro e w1 ⟨rfl, hb1⟩
  rw [hx]
  obtain ⟨f11, f12, f13, f14, f15⟩ := bfacts hb1
  simp only [World.size_alloc] at f11 f12 f13 f14 f15
  go_wp2_with fail
  refine (valid21 y _).mono ?_
  rintro e w2 ⟨rfl, hb2⟩
  rw [hy]
  replace hb2 := hb1.trans (hb2.mono hb1.size)
  clear f11 f12 f13 f14 f15 hb1
  obtain ⟨f21, f22, f23, f24, f25⟩ := bfacts hb2
  simp only [World.size_alloc] at f21 f22 f23 f24 f25
  go_wp2_with fail
  refine bodyPost_ret (v := .tuple #[Ch.v zCh, .int .i64 22]) (results_ct rfl rfl (by simp (maxDischargeDepth := 6) [Ch.v, zCh, zCl, go_sem, f23, f24]) rfl) rfl ⟨rfl, ?_⟩
  repeat (first | exact Below.refl _ _ | refine Below.alloc ?_ (by first | omega | (simp <;> omega)) _ | refine Go.below_setRow ?_ (by first | omega | (simp <;> omega)) _ | refine Below.setCell ?_ (by first | (simp <;> omega) | (dsimp only; omega)) _ | refine Below.trans ?_ (hb2.mono (by first | omega | (simp <;> omega))))

set_option maxHeartbeats 1000000 in
theorem join19_c (x y : Ch) (w : World) (hx : chOk x = true) (hy : chOk y = true) (h : x.page ≠ y.page) : Calls Try.prog 19 #[.agg #[.int .i64 x.page, .int .i64 x.slot, .bool x.before.set, .string x.before.data, .bool x.after.set, .string x.after.data], .agg #[.int .i64 y.page, .int .i64 y.slot, .bool y.before.set, .string y.before.data, .bool y.after.set, .string y.after.data]] w
    fun e w' => e = .returned (.tuple #[Ch.v zCh, .int .i64 6]) ∧ Below w.heap.size w w' := by
  have e1 : (x.page != y.page) = true := by simpa using h
  go_enter Try.func19, Try.ntmps19
  go_wp2_with fail
  refine (valid21 x _).mono ?_
  rintro e w1 ⟨rfl, hb1⟩
  rw [hx]
  obtain ⟨f11, f12, f13, f14, f15⟩ := bfacts hb1
  simp only [World.size_alloc] at f11 f12 f13 f14 f15
  go_wp2_with fail
  refine (valid21 y _).mono ?_
  rintro e w2 ⟨rfl, hb2⟩
  rw [hy]
  replace hb2 := hb1.trans (hb2.mono hb1.size)
  clear f11 f12 f13 f14 f15 hb1
  obtain ⟨f21, f22, f23, f24, f25⟩ := bfacts hb2
  simp only [World.size_alloc] at f21 f22 f23 f24 f25
  go_wp2_with fail
  refine bodyPost_ret (v := .tuple #[Ch.v zCh, .int .i64 6]) (results_ct rfl rfl (by simp (maxDischargeDepth := 6) [Ch.v, zCh, zCl, go_sem, f23, f24]) rfl) rfl ⟨rfl, ?_⟩
  repeat (first | exact Below.refl _ _ | refine Below.alloc ?_ (by first | omega | (simp <;> omega)) _ | refine Go.below_setRow ?_ (by first | omega | (simp <;> omega)) _ | refine Below.setCell ?_ (by first | (simp <;> omega) | (dsimp only; omega)) _ | refine Below.trans ?_ (hb2.mono (by first | omega | (simp <;> omega))))

set_option maxHeartbeats 1000000 in
theorem join19_d (x y : Ch) (w : World) (hx : chOk x = true) (hy : chOk y = true) (h : x.page = y.page) (h2 : x.slot ≠ y.slot) : Calls Try.prog 19 #[.agg #[.int .i64 x.page, .int .i64 x.slot, .bool x.before.set, .string x.before.data, .bool x.after.set, .string x.after.data], .agg #[.int .i64 y.page, .int .i64 y.slot, .bool y.before.set, .string y.before.data, .bool y.after.set, .string y.after.data]] w
    fun e w' => e = .returned (.tuple #[Ch.v zCh, .int .i64 6]) ∧ Below w.heap.size w w' := by
  have e1 : (x.page != y.page) = false := by simpa using h
  have e2 : (x.slot != y.slot) = true := by simpa using h2
  clear h
  go_enter Try.func19, Try.ntmps19
  go_wp2_with fail
  refine (valid21 x _).mono ?_
  rintro e w1 ⟨rfl, hb1⟩
  rw [hx]
  obtain ⟨f11, f12, f13, f14, f15⟩ := bfacts hb1
  simp only [World.size_alloc] at f11 f12 f13 f14 f15
  go_wp2_with fail
  refine (valid21 y _).mono ?_
  rintro e w2 ⟨rfl, hb2⟩
  rw [hy]
  replace hb2 := hb1.trans (hb2.mono hb1.size)
  clear f11 f12 f13 f14 f15 hb1
  obtain ⟨f21, f22, f23, f24, f25⟩ := bfacts hb2
  simp only [World.size_alloc] at f21 f22 f23 f24 f25
  go_wp2_with fail
  refine bodyPost_ret (v := .tuple #[Ch.v zCh, .int .i64 6]) (results_ct rfl rfl (by simp (maxDischargeDepth := 6) [Ch.v, zCh, zCl, go_sem, f23, f24]) rfl) rfl ⟨rfl, ?_⟩
  repeat (first | exact Below.refl _ _ | refine Below.alloc ?_ (by first | omega | (simp <;> omega)) _ | refine Go.below_setRow ?_ (by first | omega | (simp <;> omega)) _ | refine Below.setCell ?_ (by first | (simp <;> omega) | (dsimp only; omega)) _ | refine Below.trans ?_ (hb2.mono (by first | omega | (simp <;> omega))))

set_option maxHeartbeats 1000000 in
theorem join19_e (x y : Ch) (w : World) (hx : chOk x = true) (hy : chOk y = true) (h : x.page = y.page) (h2 : x.slot = y.slot) (h3 : (y.before.set == x.after.set) = false) : Calls Try.prog 19 #[.agg #[.int .i64 x.page, .int .i64 x.slot, .bool x.before.set, .string x.before.data, .bool x.after.set, .string x.after.data], .agg #[.int .i64 y.page, .int .i64 y.slot, .bool y.before.set, .string y.before.data, .bool y.after.set, .string y.after.data]] w
    fun e w' => e = .returned (.tuple #[Ch.v zCh, .int .i64 20]) ∧ Below w.heap.size w w' := by
  have e1 : (x.page != y.page) = false := by simpa using h
  have e2 : (x.slot != y.slot) = false := by simpa using h2
  clear h h2
  go_enter Try.func19, Try.ntmps19
  go_wp2_with fail
  refine (valid21 x _).mono ?_
  rintro e w1 ⟨rfl, hb1⟩
  rw [hx]
  obtain ⟨f11, f12, f13, f14, f15⟩ := bfacts hb1
  simp only [World.size_alloc] at f11 f12 f13 f14 f15
  go_wp2_with fail
  refine (valid21 y _).mono ?_
  rintro e w2 ⟨rfl, hb2⟩
  rw [hy]
  replace hb2 := hb1.trans (hb2.mono hb1.size)
  clear f11 f12 f13 f14 f15 hb1
  obtain ⟨f21, f22, f23, f24, f25⟩ := bfacts hb2
  simp only [World.size_alloc] at f21 f22 f23 f24 f25
  go_wp2_with fail
  refine bodyPost_ret (v := .tuple #[Ch.v zCh, .int .i64 20]) (results_ct rfl rfl (by simp (maxDischargeDepth := 6) [Ch.v, zCh, zCl, go_sem, f23, f24]) rfl) rfl ⟨rfl, ?_⟩
  repeat (first | exact Below.refl _ _ | refine Below.alloc ?_ (by first | omega | (simp <;> omega)) _ | refine Go.below_setRow ?_ (by first | omega | (simp <;> omega)) _ | refine Below.setCell ?_ (by first | (simp <;> omega) | (dsimp only; omega)) _ | refine Below.trans ?_ (hb2.mono (by first | omega | (simp <;> omega))))

set_option maxHeartbeats 1000000 in
theorem join19_f (x y : Ch) (w : World) (hx : chOk x = true) (hy : chOk y = true) (h : x.page = y.page) (h2 : x.slot = y.slot) (h3 : (y.before.set == x.after.set) = true) (h4 : (y.before.data.toList == x.after.data.toList) = false) : Calls Try.prog 19 #[.agg #[.int .i64 x.page, .int .i64 x.slot, .bool x.before.set, .string x.before.data, .bool x.after.set, .string x.after.data], .agg #[.int .i64 y.page, .int .i64 y.slot, .bool y.before.set, .string y.before.data, .bool y.after.set, .string y.after.data]] w
    fun e w' => e = .returned (.tuple #[Ch.v zCh, .int .i64 20]) ∧ Below w.heap.size w w' := by
  have e1 : (x.page != y.page) = false := by simpa using h
  have e2 : (x.slot != y.slot) = false := by simpa using h2
  clear h h2
  go_enter Try.func19, Try.ntmps19
  go_wp2_with fail
  refine (valid21 x _).mono ?_
  rintro e w1 ⟨rfl, hb1⟩
  rw [hx]
  obtain ⟨f11, f12, f13, f14, f15⟩ := bfacts hb1
  simp only [World.size_alloc] at f11 f12 f13 f14 f15
  go_wp2_with fail
  refine (valid21 y _).mono ?_
  rintro e w2 ⟨rfl, hb2⟩
  rw [hy]
  replace hb2 := hb1.trans (hb2.mono hb1.size)
  clear f11 f12 f13 f14 f15 hb1
  obtain ⟨f21, f22, f23, f24, f25⟩ := bfacts hb2
  simp only [World.size_alloc] at f21 f22 f23 f24 f25
  go_wp2_with fail
  refine bodyPost_ret (v := .tuple #[Ch.v zCh, .int .i64 20]) (results_ct rfl rfl (by simp (maxDischargeDepth := 6) [Ch.v, zCh, zCl, go_sem, f23, f24]) rfl) rfl ⟨rfl, ?_⟩
  repeat (first | exact Below.refl _ _ | refine Below.alloc ?_ (by first | omega | (simp <;> omega)) _ | refine Go.below_setRow ?_ (by first | omega | (simp <;> omega)) _ | refine Below.setCell ?_ (by first | (simp <;> omega) | (dsimp only; omega)) _ | refine Below.trans ?_ (hb2.mono (by first | omega | (simp <;> omega))))

set_option maxHeartbeats 1000000 in
theorem join19_g (x y : Ch) (w : World) (hx : chOk x = true) (hy : chOk y = true) (h : x.page = y.page) (h2 : x.slot = y.slot) (h3 : (y.before.set == x.after.set) = true) (h4 : (y.before.data.toList == x.after.data.toList) = true) : Calls Try.prog 19 #[.agg #[.int .i64 x.page, .int .i64 x.slot, .bool x.before.set, .string x.before.data, .bool x.after.set, .string x.after.data], .agg #[.int .i64 y.page, .int .i64 y.slot, .bool y.before.set, .string y.before.data, .bool y.after.set, .string y.after.data]] w
    fun e w' => e = .returned (.tuple #[Ch.v { x with after := y.after }, .int .i64 0]) ∧ Below w.heap.size w w' := by
  have e1 : (x.page != y.page) = false := by simpa using h
  have e2 : (x.slot != y.slot) = false := by simpa using h2
  clear h h2
  go_enter Try.func19, Try.ntmps19
  go_wp2_with fail
  refine (valid21 x _).mono ?_
  rintro e w1 ⟨rfl, hb1⟩
  rw [hx]
  obtain ⟨f11, f12, f13, f14, f15⟩ := bfacts hb1
  simp only [World.size_alloc] at f11 f12 f13 f14 f15
  go_wp2_with fail
  refine (valid21 y _).mono ?_
  rintro e w2 ⟨rfl, hb2⟩
  rw [hy]
  replace hb2 := hb1.trans (hb2.mono hb1.size)
  clear f11 f12 f13 f14 f15 hb1
  obtain ⟨f21, f22, f23, f24, f25⟩ := bfacts hb2
  simp only [World.size_alloc] at f21 f22 f23 f24 f25
  have r0 : rowAt w2 w.heap.size = #[.int .i64 x.page, .int .i64 x.slot, .bool x.before.set, .string x.before.data, .bool x.after.set, .string x.after.data] := by
    rw [f23 _ (by omega)]; simp [go_sem]; try (intro h; omega)
  have r2 : rowAt w2 (w.heap.size + 1 + 1) = #[.int .i64 0, .int .i64 0, .bool false, .string ⟨#[]⟩, .bool false, .string ⟨#[]⟩] := by
    rw [f23 _ (by omega)]; simp [go_sem]; try (intro h; omega)
  have l2 : live w2 (w.heap.size + 1 + 1) = true := by
    rw [f24 _ (by omega)]; simp [go_sem]; try (intro h; omega)
  clear f23 f24
  go_wp2_with fail
  refine bodyPost_ret (v := .tuple #[Ch.v { x with after := y.after }, .int .i64 0]) (results_ct rfl rfl (by simp (maxDischargeDepth := 6) [Ch.v, zCh, zCl, go_sem, r0, r2, l2]) rfl) rfl ⟨rfl, ?_⟩
  repeat (first | exact Below.refl _ _ | refine Below.alloc ?_ (by first | omega | (simp <;> omega)) _ | refine Go.below_setRow ?_ (by first | omega | (simp <;> omega)) _ | refine Below.setCell ?_ (by first | (simp <;> omega) | (dsimp only; omega)) _ | refine Below.trans ?_ (hb2.mono (by first | omega | (simp <;> omega))))

theorem join18 (x y : Ch) (w : World) : Calls Try.prog 18 #[.agg #[.int .i64 x.page, .int .i64 x.slot, .bool x.before.set, .string x.before.data, .bool x.after.set, .string x.after.data], .agg #[.int .i64 y.page, .int .i64 y.slot, .bool y.before.set, .string y.before.data, .bool y.after.set, .string y.after.data]] w
    fun e w' => e = .returned (.tuple #[Ch.v (joinF x y).1, .int .i64 (joinF x y).2]) ∧ Below w.heap.size w w' := by
  unfold joinF
  by_cases hx : chOk x = false
  · rw [if_pos (.inl hx)]; exact join18_a x y w hx
  by_cases hy : chOk y = false
  · rw [if_pos (.inr hy)]; exact join18_b x y w (by simpa using hx) hy
  rw [if_neg (by simp [hx, hy])]
  have hx' : chOk x = true := by simpa using hx
  have hy' : chOk y = true := by simpa using hy
  by_cases h : x.page = y.page
  case neg => rw [if_pos (.inl h)]; exact join18_c x y w hx' hy' h
  by_cases h2 : x.slot = y.slot
  case neg => rw [if_pos (.inr h2)]; exact join18_d x y w hx' hy' h h2
  rw [if_neg (by simp [h, h2])]
  cases h3 : (x.after.set == y.before.set) with
  | false => rw [if_pos (by simp only [clEq, h3, Bool.false_and])]; exact join18_e x y w hx' hy' h h2 h3
  | true =>
    cases h4 : (x.after.data.toList == y.before.data.toList) with
    | false => rw [if_pos (by simp only [clEq, h4, Bool.and_false])]; exact join18_f x y w hx' hy' h h2 h3 h4
    | true => rw [if_neg (by simp only [clEq, h3, h4]; decide)]; exact join18_g x y w hx' hy' h h2 h3 h4

theorem join19 (x y : Ch) (w : World) : Calls Try.prog 19 #[.agg #[.int .i64 x.page, .int .i64 x.slot, .bool x.before.set, .string x.before.data, .bool x.after.set, .string x.after.data], .agg #[.int .i64 y.page, .int .i64 y.slot, .bool y.before.set, .string y.before.data, .bool y.after.set, .string y.after.data]] w
    fun e w' => e = .returned (.tuple #[Ch.v (joinF x y).1, .int .i64 (joinF x y).2]) ∧ Below w.heap.size w w' := by
  unfold joinF
  by_cases hx : chOk x = false
  · rw [if_pos (.inl hx)]; exact join19_a x y w hx
  by_cases hy : chOk y = false
  · rw [if_pos (.inr hy)]; exact join19_b x y w (by simpa using hx) hy
  rw [if_neg (by simp [hx, hy])]
  have hx' : chOk x = true := by simpa using hx
  have hy' : chOk y = true := by simpa using hy
  by_cases h : x.page = y.page
  case neg => rw [if_pos (.inl h)]; exact join19_c x y w hx' hy' h
  by_cases h2 : x.slot = y.slot
  case neg => rw [if_pos (.inr h2)]; exact join19_d x y w hx' hy' h h2
  rw [if_neg (by simp [h, h2])]
  cases h3 : (x.after.set == y.before.set) with
  | false => rw [if_pos (by simp only [clEq, h3, Bool.false_and])]; exact join19_e x y w hx' hy' h h2 (by rw [Bool.beq_comm]; exact h3)
  | true =>
    cases h4 : (x.after.data.toList == y.before.data.toList) with
    | false => rw [if_pos (by simp only [clEq, h4, Bool.and_false])]; exact join19_f x y w hx' hy' h h2 (by rw [Bool.beq_comm]; exact h3) (by rw [bytes_beq_comm]; exact h4)
    | true => rw [if_neg (by simp only [clEq, h3, h4]; decide)]; exact join19_g x y w hx' hy' h h2 (by rw [Bool.beq_comm]; exact h3) (by rw [bytes_beq_comm]; exact h4)

end Go.Proofs.Ytiebdcejlkeoiaa
