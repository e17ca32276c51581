/- The walks of the drawing package that may answer what is not valid; the codes; and the sanity check of chapter 3. -/
import Derived.Test.YtiebdcejlkeoiaaDraw
namespace Go.Proofs.Ytiebdcejlkeoiaa
open Go.RowKit
set_option linter.unusedSimpArgs false

def SomeInt (c : Nat) (w : World) (e : Ending) (w' : World) : Prop := ∃ n : Int, e = .returned (.int .i64 n) ∧ Dr c w w'

set_option maxHeartbeats 1000000 in
set_option maxRecDepth 100000 in
theorem int_any (c : Nat) (w : World) (hC : Cds w c) : Calls Try.prog 45 #[.pointer (some ⟨c, 0, none⟩)] w (SomeInt c w) := by
  have hlt := hC.lt
  go_enter Try.func45, Try.ntmps45
  go_wp2_with fail
  refine (next_any c 10 _ hC (by omega) (by omega)).mono ?_
  rintro e w1 ⟨r, hr, rfl, hd1⟩
  by_cases h0 : r = 0
  · have e0 : ((r : Int) == 0) = true := by simp [h0]
    clear h0
    go_wp2_with fail
    refine (next_any c 3 _ (hd1.cds hC) (by omega) (by omega)).mono ?_
    rintro e w2 ⟨s, hs, rfl, hd2⟩
    go_wp2_with fail
    go_ret
    exact ⟨_, rfl, hd1.trans hd2⟩
  · have e0 : ((r : Int) == 0) = false := by simp; omega
    by_cases h1 : r = 1
    · have e1 : ((r : Int) == 1) = true := by simp [h1]
      clear h0 h1
      go_wp2_with fail
      refine (next_any c 16 _ ((hd1.trans (Dr.alloc c w1 _)).cds hC) (by omega) (by omega)).mono ?_
      rintro e w2 ⟨s, hs, rfl, hd2⟩
      have B := (hd2.block w1.heap.size (by simp) (by have := hd1.size; omega)).trans (heap_alloc_new w1 _)
      obtain ⟨v, hv⟩ : ∃ v : Int, w2.cell? ⟨w1.heap.size, s, none⟩ = some (.int .i64 v) := by
        rw [(blk B).2.2.1 s]
        clear hd2 B
        rcases s with _|_|_|_|_|_|_|_|_|_|_|_|_|_|_|_|s <;> first | exact ⟨_, rfl⟩ | (exfalso; omega)
      clear B
      go_wp2_with fail
      go_ret
      exact ⟨_, rfl, (hd1.trans (Dr.alloc c w1 _)).trans hd2⟩
    · have e1 : ((r : Int) == 1) = false := by simp; omega
      clear h0 h1
      go_wp2_with fail
      refine (next_any c 20 _ (hd1.cds hC) (by omega) (by omega)).mono ?_
      rintro e w2 ⟨s, hs, rfl, hd2⟩
      go_wp2_with fail
      go_ret
      exact ⟨_, rfl, hd1.trans hd2⟩

def SomeCh (c : Nat) (w : World) (e : Ending) (w' : World) : Prop := ∃ x : Ch, e = .returned (.agg #[.int .i64 x.page, .int .i64 x.slot, .bool x.before.set, .string x.before.data, .bool x.after.set, .string x.after.data]) ∧ Dr c w w'

set_option maxHeartbeats 2000000 in
set_option maxRecDepth 100000 in
theorem oddChange_any (c : Nat) (x : Ch) (w : World) (hC : Cds w c) : Calls Try.prog 17 #[.pointer (some ⟨c, 0, none⟩), .agg #[.int .i64 x.page, .int .i64 x.slot, .bool x.before.set, .string x.before.data, .bool x.after.set, .string x.after.data]] w (SomeCh c w) := by
  have hlt := hC.lt
  obtain ⟨xp, xs, ⟨us, ud⟩, ⟨vs, vd⟩⟩ := x
  go_enter Try.func17, Try.ntmps17
  go_wp2_with fail
  refine (next_any c 4 _ (((Dr.alloc c w _).trans (Dr.alloc c _ _)).cds hC) (by omega) (by omega)).mono ?_
  rintro e w1 ⟨r, hr, rfl, hd1⟩
  have B3 := (hd1.block w.heap.size (by simp; omega) (by omega)).trans (heap_alloc2_old w _ _)
  have B4 := (hd1.block (w.heap.size + 1) (by simp) (by omega)).trans (heap_alloc2_new w _ _)
  replace hd1 := ((Dr.alloc c w _).trans (Dr.alloc c _ _)).trans hd1
  have H3 := Hd.mk B3
  have H4 := Hd.mk B4
  clear B3 B4
  obtain h0 | h0 | h0 | h0 : r = 0 ∨ r = 1 ∨ r = 2 ∨ r = 3 := by omega
  · have e0 : ((r : Int) == 0) = true := by simp; omega
    clear h0
    go_wp2_with fail
    refine (int_any c _ (hd1.cds hC)).mono ?_
    rintro e w2 ⟨n, rfl, hd2⟩
    have B3 := (hd2.block w.heap.size (blk H3.out).2.2.2.2 (by omega)).trans H3.out
    have B4 := (hd2.block (w.heap.size + 1) (blk H4.out).2.2.2.2 (by omega)).trans H4.out
    replace hd2 := hd1.trans hd2
    obtain ⟨b1, b2, b3, b4, b5⟩ := blk B3
    obtain ⟨d1, d2, d3, d4, d5⟩ := blk B4
    clear H3 H4 hd1 B3 B4 d3 d4
    go_wp2_with fail
    refine bodyPost_ret (v := .agg #[.int .i64 n, .int .i64 xs, .bool us, .string ud, .bool vs, .string vd]) (results_c rfl rfl (by simp (maxDischargeDepth := 6) [go_sem, b1, d1, d2])) rfl ⟨⟨n, xs, ⟨us, ud⟩, ⟨vs, vd⟩⟩, rfl, ?_⟩
    exact (hd2.setCell hC (by dsimp only; omega) _).setRow hC (by simp) _
  · have e0 : ((r : Int) == 0) = false := by simp; omega
    have e1 : ((r : Int) == 1) = true := by simp; omega
    clear h0
    go_wp2_with fail
    refine (int_any c _ (hd1.cds hC)).mono ?_
    rintro e w2 ⟨n, rfl, hd2⟩
    have B3 := (hd2.block w.heap.size (blk H3.out).2.2.2.2 (by omega)).trans H3.out
    have B4 := (hd2.block (w.heap.size + 1) (blk H4.out).2.2.2.2 (by omega)).trans H4.out
    replace hd2 := hd1.trans hd2
    obtain ⟨b1, b2, b3, b4, b5⟩ := blk B3
    obtain ⟨d1, d2, d3, d4, d5⟩ := blk B4
    clear H3 H4 hd1 B3 B4 d3 d4
    go_wp2_with fail
    refine bodyPost_ret (v := .agg #[.int .i64 xp, .int .i64 n, .bool us, .string ud, .bool vs, .string vd]) (results_c rfl rfl (by simp (maxDischargeDepth := 6) [go_sem, b1, d1, d2])) rfl ⟨⟨xp, n, ⟨us, ud⟩, ⟨vs, vd⟩⟩, rfl, ?_⟩
    exact (hd2.setCell hC (by dsimp only; omega) _).setRow hC (by simp) _
  · have e0 : ((r : Int) == 0) = false := by simp; omega
    have e1 : ((r : Int) == 1) = false := by simp; omega
    have e2 : ((r : Int) == 2) = true := by simp; omega
    clear h0
    go_wp2_with fail
    refine (next_any c 2 _ (hd1.cds hC) (by omega) (by omega)).mono ?_
    rintro e w2 ⟨n, hn, rfl, hd2⟩
    have B3 := (hd2.block w.heap.size (blk H3.out).2.2.2.2 (by omega)).trans H3.out
    have B4 := (hd2.block (w.heap.size + 1) (blk H4.out).2.2.2.2 (by omega)).trans H4.out
    replace hd2 := hd1.trans hd2
    replace H3 := Hd.mk B3
    replace H4 := Hd.mk B4
    clear B3 B4
    go_wp2_with fail
    refine (data_any c _ (hd2.cds hC)).mono ?_
    rintro e w3 ⟨s, hs, rfl, hd3⟩
    have B3 := (hd3.block w.heap.size (blk H3.out).2.2.2.2 (by omega)).trans H3.out
    have B4 := (hd3.block (w.heap.size + 1) (blk H4.out).2.2.2.2 (by omega)).trans H4.out
    replace hd3 := hd2.trans hd3
    obtain ⟨b1, b2, b3, b4, b5⟩ := blk B3
    obtain ⟨d1, d2, d3, d4, d5⟩ := blk B4
    clear H3 H4 hd1 B3 B4 d3 d4
    go_wp2_with fail
    refine bodyPost_ret (v := .agg #[.int .i64 xp, .int .i64 xs, .bool ((n : Int) == 1), .string s, .bool vs, .string vd]) (results_c rfl rfl (by simp (maxDischargeDepth := 6) [go_sem, b1, d1, d2])) rfl ⟨⟨xp, xs, ⟨((n : Int) == 1), s⟩, ⟨vs, vd⟩⟩, rfl, ?_⟩
    exact ((hd3.setCell hC (by dsimp only; omega) _).setCell hC (by dsimp only; omega) _).setRow hC (by simp) _
  · have e0 : ((r : Int) == 0) = false := by simp; omega
    have e1 : ((r : Int) == 1) = false := by simp; omega
    have e2 : ((r : Int) == 2) = false := by simp; omega
    have e3 : ((r : Int) == 3) = true := by simp; omega
    clear h0
    go_wp2_with fail
    refine (next_any c 2 _ (hd1.cds hC) (by omega) (by omega)).mono ?_
    rintro e w2 ⟨n, hn, rfl, hd2⟩
    have B3 := (hd2.block w.heap.size (blk H3.out).2.2.2.2 (by omega)).trans H3.out
    have B4 := (hd2.block (w.heap.size + 1) (blk H4.out).2.2.2.2 (by omega)).trans H4.out
    replace hd2 := hd1.trans hd2
    replace H3 := Hd.mk B3
    replace H4 := Hd.mk B4
    clear B3 B4
    go_wp2_with fail
    refine (data_any c _ (hd2.cds hC)).mono ?_
    rintro e w3 ⟨s, hs, rfl, hd3⟩
    have B3 := (hd3.block w.heap.size (blk H3.out).2.2.2.2 (by omega)).trans H3.out
    have B4 := (hd3.block (w.heap.size + 1) (blk H4.out).2.2.2.2 (by omega)).trans H4.out
    replace hd3 := hd2.trans hd3
    obtain ⟨b1, b2, b3, b4, b5⟩ := blk B3
    obtain ⟨d1, d2, d3, d4, d5⟩ := blk B4
    clear H3 H4 hd1 B3 B4 d3 d4
    go_wp2_with fail
    refine bodyPost_ret (v := .agg #[.int .i64 xp, .int .i64 xs, .bool us, .string ud, .bool ((n : Int) == 1), .string s]) (results_c rfl rfl (by simp (maxDischargeDepth := 6) [go_sem, b1, d1, d2])) rfl ⟨⟨xp, xs, ⟨us, ud⟩, ⟨((n : Int) == 1), s⟩⟩, rfl, ?_⟩
    exact ((hd3.setCell hC (by dsimp only; omega) _).setCell hC (by dsimp only; omega) _).setRow hC (by simp) _

def SomePg (c : Nat) (w : World) (e : Ending) (w' : World) : Prop := ∃ p : Pg, e = .returned (.agg (pgA p)) ∧ Dr c w w'

set_option maxHeartbeats 2000000 in
set_option maxRecDepth 100000 in
theorem oddPage_any (c : Nat) (p : Pg) (w : World) (hC : Cds w c) : Calls Try.prog 26 #[.pointer (some ⟨c, 0, none⟩), .agg (pgA p)] w (SomePg c w) := by
  have hlt := hC.lt
  go_enter Try.func26, Try.ntmps26
  go_wp2_with fail
  refine (next_any c 4 _ (((Dr.alloc c w _).trans (Dr.alloc c _ _)).cds hC) (by omega) (by omega)).mono ?_
  rintro e w1 ⟨r, hr, rfl, hd1⟩
  have B3 := (hd1.block w.heap.size (by simp; omega) (by omega)).trans (heap_alloc2_old w _ _)
  have B4 := (hd1.block (w.heap.size + 1) (by simp) (by omega)).trans (heap_alloc2_new w _ _)
  replace hd1 := ((Dr.alloc c w _).trans (Dr.alloc c _ _)).trans hd1
  have H3 := Hd.mk B3
  have H4 := Hd.mk B4
  clear B3 B4
  obtain h0 | h0 | h0 | h0 : r = 0 ∨ r = 1 ∨ r = 2 ∨ r = 3 := by omega
  · have e0 : ((r : Int) == 0) = true := by simp; omega
    clear h0
    go_wp2_with fail
    refine (int_any c _ (hd1.cds hC)).mono ?_
    rintro e w2 ⟨n, rfl, hd2⟩
    have B3 := (hd2.block w.heap.size (blk H3.out).2.2.2.2 (by omega)).trans H3.out
    have B4 := (hd2.block (w.heap.size + 1) (blk H4.out).2.2.2.2 (by omega)).trans H4.out
    replace hd2 := hd1.trans hd2
    obtain ⟨b1, b2, b3, b4, b5⟩ := blk B3
    obtain ⟨d1, d2, d3, d4, d5⟩ := blk B4
    clear H3 H4 hd1 B3 B4 d3 d4
    go_wp2_with fail
    refine bodyPost_ret (v := .agg (pgA { p with id := n })) (results_c rfl rfl (by simp (maxDischargeDepth := 6) [go_sem, b1, d1, d2])) rfl ⟨_, rfl, ?_⟩
    exact (hd2.setCell hC (by dsimp only; omega) _).setRow hC (by simp) _
  · have e0 : ((r : Int) == 0) = false := by simp; omega
    have e1 : ((r : Int) == 1) = true := by simp; omega
    clear h0
    go_wp2_with fail
    refine (int_any c _ (hd1.cds hC)).mono ?_
    rintro e w2 ⟨n, rfl, hd2⟩
    have B3 := (hd2.block w.heap.size (blk H3.out).2.2.2.2 (by omega)).trans H3.out
    have B4 := (hd2.block (w.heap.size + 1) (blk H4.out).2.2.2.2 (by omega)).trans H4.out
    replace hd2 := hd1.trans hd2
    obtain ⟨b1, b2, b3, b4, b5⟩ := blk B3
    obtain ⟨d1, d2, d3, d4, d5⟩ := blk B4
    clear H3 H4 hd1 B3 B4 d3 d4
    go_wp2_with fail
    refine bodyPost_ret (v := .agg (pgA { p with lsn := n })) (results_c rfl rfl (by simp (maxDischargeDepth := 6) [go_sem, b1, d1, d2])) rfl ⟨_, rfl, ?_⟩
    exact (hd2.setCell hC (by dsimp only; omega) _).setRow hC (by simp) _
  · have e0 : ((r : Int) == 0) = false := by simp; omega
    have e1 : ((r : Int) == 1) = false := by simp; omega
    have e2 : ((r : Int) == 2) = true := by simp; omega
    clear h0
    go_wp2_with fail
    refine (next_any c 16 _ (hd1.cds hC) (by omega) (by omega)).mono ?_
    rintro e w2 ⟨s, hs, rfl, hd2⟩
    have B3 := (hd2.block w.heap.size (blk H3.out).2.2.2.2 (by omega)).trans H3.out
    have B4 := (hd2.block (w.heap.size + 1) (blk H4.out).2.2.2.2 (by omega)).trans H4.out
    replace hd2 := hd1.trans hd2
    replace H3 := Hd.mk B3
    replace H4 := Hd.mk B4
    clear B3 B4
    go_wp2_with fail
    refine (next_any c 2 _ (hd2.cds hC) (by omega) (by omega)).mono ?_
    rintro e w3 ⟨n, hn, rfl, hd3⟩
    have B3 := (hd3.block w.heap.size (blk H3.out).2.2.2.2 (by omega)).trans H3.out
    have B4 := (hd3.block (w.heap.size + 1) (blk H4.out).2.2.2.2 (by omega)).trans H4.out
    replace hd3 := hd2.trans hd3
    replace H3 := Hd.mk B3
    replace H4 := Hd.mk B4
    clear B3 B4
    go_wp2_with fail
    refine (data_any c _ (hd3.cds hC)).mono ?_
    rintro e w4 ⟨d, hd, rfl, hd4⟩
    have B3 := (hd4.block w.heap.size (blk H3.out).2.2.2.2 (by omega)).trans H3.out
    have B4 := (hd4.block (w.heap.size + 1) (blk H4.out).2.2.2.2 (by omega)).trans H4.out
    replace hd4 := hd3.trans hd4
    obtain ⟨b1, b2, b3, b4, b5⟩ := blk B3
    obtain ⟨d1, d2, d3, d4, d5⟩ := blk B4
    clear H3 H4 hd1 B3 B4 d3 d4
    have hs16 : s < 16 := by omega
    have e11 := pgA_s p s hs16
    have e12 := pgA_d p s hs16
    have e13 := pgA_upd p s ((n : Int) == 1) d hs16
    go_wp2_with fail
    refine bodyPost_ret (v := .agg (pgA (p.upd s ⟨((n : Int) == 1), d⟩))) (results_c rfl rfl (by simp (maxDischargeDepth := 6) [go_sem, b1, d1, d2, e13])) rfl ⟨_, rfl, ?_⟩
    exact ((hd4.setCell hC (by dsimp only; omega) _).setCell hC (by dsimp only; omega) _).setRow hC (by simp) _
  · have e0 : ((r : Int) == 0) = false := by simp; omega
    have e1 : ((r : Int) == 1) = false := by simp; omega
    have e2 : ((r : Int) == 2) = false := by simp; omega
    have e3 : ((r : Int) == 3) = true := by simp; omega
    clear h0
    go_wp2_with fail
    refine (next_any c 16 _ (hd1.cds hC) (by omega) (by omega)).mono ?_
    rintro e w2 ⟨s, hs, rfl, hd2⟩
    have B3 := (hd2.block w.heap.size (blk H3.out).2.2.2.2 (by omega)).trans H3.out
    have B4 := (hd2.block (w.heap.size + 1) (blk H4.out).2.2.2.2 (by omega)).trans H4.out
    replace hd2 := hd1.trans hd2
    replace H3 := Hd.mk B3
    replace H4 := Hd.mk B4
    clear B3 B4
    go_wp2_with fail
    refine (cell_any c _ (hd2.cds hC)).mono ?_
    rintro e w4 ⟨⟨us, ud⟩, hu, rfl, hd4⟩
    have B3 := (hd4.block w.heap.size (blk H3.out).2.2.2.2 (by omega)).trans H3.out
    have B4 := (hd4.block (w.heap.size + 1) (blk H4.out).2.2.2.2 (by omega)).trans H4.out
    replace hd4 := hd2.trans hd4
    simp only [clV]
    obtain ⟨b1, b2, b3, b4, b5⟩ := blk B3
    obtain ⟨d1, d2, d3, d4, d5⟩ := blk B4
    clear H3 H4 hd1 B3 B4 d3 d4
    have hs16 : s < 16 := by omega
    have e11 := pgA_s p s hs16
    have e12 := pgA_d p s hs16
    have e13 := pgA_upd p s us ud hs16
    go_wp2_with fail
    refine bodyPost_ret (v := .agg (pgA (p.upd s ⟨us, ud⟩))) (results_c rfl rfl (by simp (maxDischargeDepth := 6) [go_sem, b1, d1, d2, e13])) rfl ⟨_, rfl, ?_⟩
    exact ((hd4.setCell hC (by dsimp only; omega) _).setCell hC (by dsimp only; omega) _).setRow hC (by simp) _

/-- The codes are made: the slice of bytes that came in, cut at most. -/
def IsBytes (w : World) (a : Option Addr) (n cap : Nat) : Prop := n ≤ cap ∧ n ≤ 9223372036854775807 ∧ ∀ j, j < n → ∃ b o x : Nat, a = some ⟨b, o, none⟩ ∧ b < w.heap.size ∧ x < 256 ∧ w.cell? ⟨b, o + j, none⟩ = some (.int .u8 (x : Int))
def SomeCodes (w : World) (e : Ending) (w' : World) : Prop := ∃ c, w.heap.size ≤ c ∧ Cds w' c ∧ e = .returned (.pointer (some ⟨c, 0, none⟩)) ∧ Below w.heap.size w w'

theorem codes_new {w : World} {a : Option Addr} {n cap : Nat} (h : IsBytes w a n cap) : Cds (w.alloc (.cells #[.slice a n cap, .int .i64 0] 78)) w.heap.size := by
  obtain ⟨h1, h2, h3⟩ := h
  refine ⟨a, n, cap, 0, heap_alloc_new w _, h2, Nat.zero_le _, fun j hj => ?_⟩
  obtain ⟨b, o, x, e1, e2, e3, e4⟩ := h3 j hj
  exact ⟨b, o, x, e1, e2, e3, by rw [World.cell?_of_block (w := w) (Below.heap_alloc _ _ _ e2)]; exact e4⟩

theorem IsBytes.cut {w : World} {a : Option Addr} {n cap m : Nat} (h : IsBytes w a n cap) (hm : m ≤ n) : IsBytes w a m cap :=
  ⟨Nat.le_trans hm h.1, Nat.le_trans hm h.2.1, fun j hj => h.2.2 j (by omega)⟩

set_option maxHeartbeats 1000000 in
theorem new_any (a : Option Addr) (n cap : Nat) (M : Int) (w : World) (hm : 0 < M) (hm2 : M ≤ 1000) (h : IsBytes w a n cap) : Calls Try.prog 13 #[.slice a n cap, .int .i64 M] w (SomeCodes w) := by
  have h1 := h.1
  have h2 := h.2.1
  have H := Hd.mk h
  clear h
  obtain ⟨m, rfl⟩ : ∃ m : Nat, M = m := ⟨M.toNat, by omega⟩
  by_cases hlt : m < n
  · go_enter Try.func13, Try.ntmps13
    go_wp2_with fail
    go_ret
    exact ⟨w.heap.size, Nat.le_refl _, codes_new (H.out.cut (Nat.le_of_lt hlt)), rfl, (Below.refl _ _).alloc (Nat.le_refl _) _⟩
  · go_enter Try.func13, Try.ntmps13
    go_wp2_with fail
    go_ret
    exact ⟨w.heap.size, Nat.le_refl _, codes_new H.out, rfl, (Below.refl _ _).alloc (Nat.le_refl _) _⟩

set_option maxHeartbeats 1000000 in
theorem awake12 (w : World) : Calls Try.prog 12 #[] w fun e w' => e = .returned (.bool true) ∧ Below w.heap.size w w' := by
  go_enter Try.func12, Try.ntmps12
  go_wp2_with fail
  refine (inverse22 ⟨0, 0, ⟨false, ⟨#[]⟩⟩, ⟨true, ⟨#[120]⟩⟩⟩ _).mono ?_
  rintro e w1 ⟨rfl, hb1⟩
  simp only [Ch.v, Ch.inv]
  go_wp2_with fail
  refine (valid20 ⟨0, 0, ⟨true, ⟨#[120]⟩⟩, ⟨false, ⟨#[]⟩⟩⟩ _).mono ?_
  rintro e w2 ⟨rfl, hb2⟩
  have hv : chOk ⟨0, 0, ⟨true, ⟨#[120]⟩⟩, ⟨false, ⟨#[]⟩⟩⟩ = true := by simp [chOk, clOk, pagedB, slotB, ByteArray.toList_eq, ByteArray.size]
  rw [hv]
  go_wp2_with fail
  go_ret
  exact ⟨rfl, (hb1.alloc hb1.size _).trans (hb2.mono (by have := hb1.size; simp; omega))⟩

end Go.Proofs.Ytiebdcejlkeoiaa
