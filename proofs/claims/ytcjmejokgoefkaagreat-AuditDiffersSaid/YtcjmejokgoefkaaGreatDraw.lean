/- The walks of the drawing package: what each draw leaves, and that it answers within its bounds. -/
import Derived.Test.YtcjmejokgoefkaaGreatBase
namespace Go.Proofs.YtcjmejokgoefkaaGreat
open Go.RowKit
set_option linter.unusedSimpArgs false

/-- A fact kept from the walk. -/
structure Hd (p : Prop) : Prop where
  out : p

/-- The codes in block c: a slice of bytes that lies below c, and how many of them are used. -/
def Cds (w : World) (c : Nat) : Prop := ∃ (a : Option Addr) (n cap k : Nat), w.heap[c]? = some (.cells #[.slice a n cap, .int .i64 (k : Int)] 92 (0, 0)) ∧ n ≤ 9223372036854775807 ∧ k ≤ n ∧
  ∀ j, j < n → ∃ b o x : Nat, a = some ⟨b, o, none⟩ ∧ b < c ∧ x < 256 ∧ w.cell? ⟨b, o + j, none⟩ = some (.int .u8 (x : Int))

/-- What a call that draws leaves: new memory, and the codes one further. -/
structure Dr (c : Nat) (w w' : World) : Prop where
  os : w'.os = w.os
  tape : w'.tape = w.tape
  output : w'.output = w.output
  size : w.heap.size ≤ w'.heap.size
  block : ∀ k, k < w.heap.size → k ≠ c → w'.heap[k]? = w.heap[k]?
  cds : Cds w c → Cds w' c

theorem Cds.lt {w : World} {c : Nat} (h : Cds w c) : c < w.heap.size := by
  obtain ⟨a, n, cap, k, h, _⟩ := h
  by_cases hlt : c < w.heap.size
  · exact hlt
  · have hn : w.heap[c]? = none := by simp; omega
    rw [hn] at h; cases h
theorem Cds.of_block {w w' : World} {c : Nat} (h : Cds w c) (hb : ∀ k, k ≤ c → w'.heap[k]? = w.heap[k]?) : Cds w' c := by
  obtain ⟨a, n, cap, k, h0, h1, h2, h3⟩ := h
  refine ⟨a, n, cap, k, by rw [hb c (Nat.le_refl _)]; exact h0, h1, h2, fun j hj => ?_⟩
  obtain ⟨b, o, x, e1, e2, e3, e4⟩ := h3 j hj
  exact ⟨b, o, x, e1, e2, e3, by rw [World.cell?_of_block (w := w) (hb b (by omega))]; exact e4⟩
theorem Dr.refl (c : Nat) (w : World) : Dr c w w := ⟨rfl, rfl, rfl, Nat.le_refl _, fun _ _ _ => rfl, id⟩
theorem Dr.trans {c : Nat} {u v w : World} (h : Dr c u v) (k : Dr c v w) : Dr c u w :=
  ⟨k.os.trans h.os, k.tape.trans h.tape, k.output.trans h.output, Nat.le_trans h.size k.size, fun i hi hc => (k.block i (Nat.lt_of_lt_of_le hi h.size) hc).trans (h.block i hi hc), fun x => k.cds (h.cds x)⟩
theorem Dr.of_below {c : Nat} {w w' : World} (h : Below w.heap.size w w') : Dr c w w' :=
  ⟨h.os, h.tape, h.output, h.size, fun k hk _ => h.block k hk, fun x => x.of_block fun k hk => h.block k (by have := x.lt; omega)⟩
theorem Dr.drewN (c : Nat) (w : World) (n : Nat) : Dr c w (w.drewN n) := ⟨rfl, rfl, rfl, Nat.le_refl _, fun _ _ _ => rfl, fun x => x.of_block fun _ _ => rfl⟩
theorem Dr.drew (c : Nat) (w : World) : Dr c w w.drew := ⟨rfl, rfl, rfl, Nat.le_refl _, fun _ _ _ => rfl, fun x => x.of_block fun _ _ => rfl⟩
theorem Dr.alloc (c : Nat) (w : World) (o : Obj) : Dr c w (w.alloc o) := .of_below ((Below.refl _ _).alloc (Nat.le_refl _) _)
/-- The codes one further. -/
theorem Dr.step {c : Nat} {w : World} {a : Option Addr} {n cap k : Nat} (h0 : w.heap[c]? = some (.cells #[.slice a n cap, .int .i64 (k : Int)] 92 (0, 0))) (hk : k < n) : Dr c w (w.setCell ⟨c, 1, none⟩ (.int .i64 ((k : Int) + 1))) := by
  refine ⟨rfl, rfl, rfl, by simp, fun i hi hc => Below.heap_setCell _ _ _ _ hc, ?_⟩
  rintro ⟨a', n', cap', k', e0, e1, e2, e3⟩
  rw [h0] at e0
  simp only [Option.some.injEq, Obj.cells.injEq, Array.mk.injEq, List.cons.injEq, Value.slice.injEq, Value.int.injEq, true_and, and_true] at e0
  obtain ⟨⟨rfl, rfl, rfl⟩, hkk⟩ := e0
  have : k' = k := by omega
  subst this
  refine ⟨a, n, cap, k' + 1, ?_, e1, by omega, fun j hj => ?_⟩
  · rw [heap_setCell_same w c 1 _ 92 _ h0]
    simp
  · obtain ⟨b, o, x, q1, q2, q3, q4⟩ := e3 j hj
    refine ⟨b, o, x, q1, q2, q3, ?_⟩
    rw [World.cell?_of_block (w := w) (Below.heap_setCell _ _ _ _ (by dsimp only; omega))]
    exact q4

def SomeNat (P : Nat → Prop) (c : Nat) (w : World) (e : Ending) (w' : World) : Prop := ∃ r : Nat, P r ∧ e = .returned (.int .i64 (r : Int)) ∧ Dr c w w'

/-- One choice from 0 to n - 1. -/
theorem next_any (c : Nat) (n : Int) (w : World) (hC : Cds w c) (h1 : 1 ≤ n) (h2 : n ≤ 256) :
    Calls Tryz.prog 6 #[.pointer (some ⟨c, 0, none⟩), .int .i64 n] w (SomeNat (fun r => (r : Int) < n) c w) := by
  obtain ⟨a, m, cap, k, h0, hm, hk, hx⟩ := hC
  have c0 : w.cell? ⟨c, 0, none⟩ = some (.slice a m cap) := by rw [cell_of_row w c 0 _ 92 (0, 0) h0]; rfl
  have c1 : w.cell? ⟨c, 1, none⟩ = some (.int .i64 (k : Int)) := by rw [cell_of_row w c 1 _ 92 (0, 0) h0]; rfl
  have f1 : w.frozen? ⟨c, 1, none⟩ = false := frozen_of_row w c 1 _ 92 h0
  by_cases hkm : k < m
  · obtain ⟨b, o, x, rfl, hb, hx1, hx2⟩ := hx k hkm
    have hd : decide ((k : Int) ≥ (m : Int)) = false := by simp; omega
    have hd2 : decide ((m : Int) ≤ (k : Int)) = false := by simp; omega
    have q1 : (0 : Int) ≤ k := by omega
    have q2 : (k : Int) < m := by omega
    have q3 : ¬ n < 1 := by omega
    have q4 : ¬ 256 < n := by omega
    have HS := Hd.mk (Dr.step h0 hkm)
    clear hx h0
    go_enter Tryz.func6, Tryz.ntmps6
    go_wp2
    go_quiet (fail)
    go_wp2
    go_quiet (fail)
    go_wp2
    go_ret
    have p1 := Int.emod_nonneg (x : Int) (b := n) (by omega)
    have p2 := Int.emod_lt_of_pos (x : Int) (b := n) (by omega)
    exact ⟨((x : Int) % n).toNat, by omega, by rw [Int.toNat_of_nonneg p1]; rfl, HS.out.trans (Dr.drewN c _ _)⟩
  · have hd : decide ((k : Int) ≥ (m : Int)) = true := by simp; omega
    have hd2 : decide ((m : Int) ≤ (k : Int)) = true := by simp; omega
    clear hx h0
    go_enter Tryz.func6, Tryz.ntmps6
    go_wp2
    go_quiet (fail)
    go_wp2
    go_ret
    exact ⟨0, by omega, rfl, Dr.drewN c _ _⟩

theorem info5 : (Tryz.prog.info? 5).map (fun i => (i.zero, i.size, i.bytes)) = some (some (.int .u8 0), 1, 1) := by kernel_rfl

theorem Dr.grown {c : Nat} {a w w' : World} {row : Option Nat} (h : Dr c a w) (hg : w.grownBy w' row) (hC : Cds a c) (hr : ∀ k, row = some k → a.heap.size ≤ k) : Dr c a w' := by
  have hc := hC.lt
  have hcw : c < w.heap.size := Nat.lt_of_lt_of_le hc h.size
  refine ⟨hg.os.trans h.os, hg.tape.trans h.tape, hg.output.trans h.output, Nat.le_trans h.size hg.size, fun k hk hkc => (hg.block k (Nat.lt_of_lt_of_le hk h.size) (fun e => by have := hr k e.symm; omega)).trans (h.block k hk hkc), fun x => ?_⟩
  exact (h.cds x).of_block fun k hk => hg.block k (by omega) (fun e => by have := hr k e.symm; omega)

theorem own_dr {w w' : World} {c base : Nat} {e : TypeId} {size : Nat} {v : Value} {n : Nat} {xs : List Value} (h : w.ownsRow base e size v n xs) (hd : Dr c w w') (hc : c < base) : w'.ownsRow base e size v n xs := by
  refine h.kept (row := some c) ⟨hd.os, hd.tape, hd.output, hd.size, fun k hk hne => hd.block k hk (fun e => hne (by rw [e]))⟩ ?_
  cases hv : v.ownBlock with
  | none => exact .inl rfl
  | some k => exact .inr (by have := (h.lt k hv).1; simp; omega)

def SomeStr (P : ByteArray → Prop) (c : Nat) (w : World) (e : Ending) (w' : World) : Prop := ∃ s : ByteArray, P s ∧ e = .returned (.string s) ∧ Dr c w w'

set_option maxHeartbeats 1000000 in
theorem data_any (c : Nat) (w : World) (hC : Cds w c) : Calls Tryz.prog 13 #[.pointer (some ⟨c, 0, none⟩)] w (SomeStr (fun s => s.size < 14) c w) := by
  obtain ⟨i0, hi, hz0, hz1, hz2⟩ := info_parts info5
  go_enter Tryz.func13, Tryz.ntmps13
  go_wp2_with fail
  refine (next_any c 5 _ hC (by omega) (by omega)).mono ?_
  rintro e w1 ⟨n, hn, rfl, hd1⟩
  go_wp2_with fail
  refine (next_any c 6 _ (hd1.cds hC) (by omega) (by omega)).mono ?_
  rintro e w3 ⟨r2, hr2, rfl, hd3⟩
  replace hd3 := hd1.trans hd3
  clear hd1
  by_cases h6 : r2 = 0
  case' pos =>
    have e6 : ((r2 : Int) == 0) = true := by simp [h6]
    clear h6 hn
    go_wp2_with fail
    refine (next_any c 14 _ (hd3.cds hC) (by omega) (by omega)).mono ?_
    rintro e w4 ⟨n, hn, rfl, hd4⟩
    replace hd3 := hd3.trans hd4
    clear hd4 e6
  case' neg =>
    have e6 : ((r2 : Int) == 0) = false := by simp [h6]
    clear h6
    replace hn : (n : Int) < 14 := by omega
    obtain ⟨w4, rfl⟩ : ∃ w4, w4 = w3 := ⟨_, rfl⟩
  all_goals
    have hsz := hd3.size
    go_wp2_with (at_make; refine wpList_make_own _ rfl _ _ 22 rfl w.heap.size 5 i0 (.int .u8 0) 1 Tryz.underlying22 hi hz0 hz1 .i64 .i64 _ n rfl rfl rfl (by rw [hz2]; omega) (by unfold maxLen; omega) hsz ?_; intro w5 hown5 hgrow5)
    have hd5 := hd3.grown hgrow5 hC (by simp)
    have hg5 : w.heap.size ≤ w4.heap.size := hsz
    obtain ⟨g, hg⟩ : ∃ g, g = w4.heap.size := ⟨_, rfl⟩
    rw [← hg] at hown5 hg5 ⊢
    clear hgrow5 hd3 hsz hg
    try clear e6
    go_loopw [4, 5] (fun v i wr => ∃ (k : Nat) (zs : List Nat), k ≤ n ∧ i = .int .i64 (k : Int) ∧ v = .slice (some ⟨g, 0, none⟩) k n ∧ zs.length = k ∧ wr.ownsRow w.heap.size 5 1 (.slice (some ⟨g, 0, none⟩) k n) k (zs.map fun (x : Nat) => Value.int .u8 (x : Int)) ∧ Dr c w wr) (fun _ i _ => n - (intOf i).toNat)
    case atStart => exact ⟨0, [], Nat.zero_le _, rfl, rfl, rfl, hown5, hd5⟩
    case round =>
      obtain ⟨k, zs, hk, rfl, rfl, hzs, hown, hd⟩ := hrel
      by_cases hlt : k < n
      · go_wp2_with fail
        refine (next_any c 3 _ (hd.cds hC) (by omega) (by omega)).mono ?_
        rintro e w6 ⟨r, hr, rfl, hd6⟩
        go_wp2_with (at_builtin; refine wpList_append_fits _ rfl (.tmp 20) (.tmp 25) 22 rfl w.heap.size 5 i0 1 Tryz.underlying22 hi hz1 g k n _ rfl ((own_dr hown hd6 hC.lt).alloc _) ⟨w6.heap.size, 0, none⟩ 1 1 [.int .u8 (97 + r)] rfl rfl (cell_one_new _ _ _) (ints_oneCell .u8 [97 + r]) (by omega) ?_; intro w7 hown7 hgrow7)
        have hd7 := ((hd.trans hd6).trans (Dr.alloc c w6 _)).grown hgrow7 hC (fun k hk => by have := Option.some.inj hk; omega)
        go_roundw
        case rel => exact ⟨k + 1, zs ++ [97 + r], by omega, by go_num, rfl, by simp [hzs], by simpa using hown7, hd7⟩
        case measure => simp [intOf]; omega
      · have hkn : k = n := by omega
        subst hkn
        have hcv := run_convert_bytes_arg (P := Tryz.prog) wr 22 5 Tryz.underlying22 Tryz.underlying5 g 0 k k (zs.map fun (x : Nat) => (x : Int)) (by simpa using hzs) (fun j hj => by
          have := hown.cells (g := g) rfl j (.int .u8 (zs.getD j 0 : Nat)) (by simp [List.getD, show j < zs.length by omega])
          rw [Addr.add_lit] at this
          rw [this]
          simp [List.getD, show j < zs.length by omega]) 9 Tryz.underlying9
        have hsz : (strOfNums (zs.map fun (x : Nat) => (x : Int))).size < 14 := by rw [strOfNums_size]; simp; omega
        generalize strOfNums (zs.map fun (x : Nat) => (x : Int)) = s at hcv hsz
        go_wp2_with fail
        go_ret
        exact ⟨s, hsz, rfl, hd⟩


/-! ### what stays -/
theorem heap_alloc_if (w : World) (o : Obj) (n : Nat) : (w.alloc o).heap[n]? = if n = w.heap.size then some o else w.heap[n]? := by
  show (w.heap.push o)[n]? = _
  rw [Array.getElem?_push]
theorem Dr.setCell {c : Nat} {w w' : World} (h : Dr c w w') (hC : Cds w c) {a : Addr} (ha : w.heap.size ≤ a.block) (v : Value) : Dr c w (w'.setCell a v) :=
  ⟨h.os, h.tape, h.output, by simpa using h.size, fun k hk hc => (Below.heap_setCell _ _ _ _ (by omega)).trans (h.block k hk hc), fun x => (h.cds x).of_block fun k hk => Below.heap_setCell _ _ _ _ (by have := hC.lt; omega)⟩
theorem Dr.setRow {c : Nat} {w w' : World} (h : Dr c w w') (hC : Cds w c) {g : Nat} (hg : w.heap.size ≤ g) (cs : Array Value) : Dr c w (w'.setRow g cs) :=
  ⟨h.os, h.tape, h.output, by simpa using h.size, fun k hk hc => (setRow_other _ _ _ _ (by omega)).trans (h.block k hk hc), fun x => (h.cds x).of_block fun k hk => setRow_other _ _ _ _ (by have := hC.lt; omega)⟩
/-- A block of the call's own, as rules for the walk. -/
theorem blk {w : World} {g : Nat} {arr : Array Value} {t : TypeId} (h : w.heap[g]? = some (.cells arr t (0, 0))) : rowAt w g = arr ∧ live w g = true ∧ (∀ o, w.cell? ⟨g, o, none⟩ = arr[o]?) ∧ (∀ o, w.frozen? ⟨g, o, none⟩ = false) ∧ g < w.heap.size :=
  ⟨rowAt_of h, by simp only [live, h], fun o => cell_of_row w g o arr t (0, 0) h, fun o => frozen_of_row w g o arr t h, (Array.getElem?_eq_some_iff.1 h).1⟩

theorem clOk_zCl : clOk zCl = true := by simp [clOk, zCl, ByteArray.toList_eq, ByteArray.size]
def clV (x : Cl) : Value := .agg #[.bool x.set, .string x.data]
def SomeCell (c : Nat) (w : World) (e : Ending) (w' : World) : Prop := ∃ x : Cl, clOk x = true ∧ e = .returned (clV x) ∧ Dr c w w'

set_option maxHeartbeats 1000000 in
theorem cell_any (c : Nat) (w : World) (hC : Cds w c) : Calls Tryz.prog 8 #[.pointer (some ⟨c, 0, none⟩)] w (SomeCell c w) := by
  have hlt := hC.lt
  go_enter Tryz.func8, Tryz.ntmps8
  go_wp2_with fail
  refine (next_any c 3 _ ((Dr.alloc c w _).cds hC) (by omega) (by omega)).mono ?_
  rintro e w1 ⟨r, hr, rfl, hd1⟩
  have B1 := (hd1.block w.heap.size (by simp) (by omega)).trans (heap_alloc_new w _)
  replace hd1 := (Dr.alloc c w _).trans hd1
  by_cases h0 : r = 0
  · have e0 : ((r : Int) == 0) = true := by simp [h0]
    clear h0
    obtain ⟨b1, b2, b3, b4, b5⟩ := blk B1
    clear B1
    go_wp2_with fail
    refine bodyPost_ret (v := clV zCl) (results_c rfl rfl (by rw [← ldv_eq]; simp [go_sem, clV, zCl, b3])) rfl ⟨zCl, clOk_zCl, rfl, ?_⟩
    exact (hd1.setCell hC (by simp) _).setCell hC (by simp) _
  · have e0 : ((r : Int) == 0) = false := by simp [h0]
    clear h0
    go_wp2_with fail
    refine (data_any c _ (hd1.cds hC)).mono ?_
    rintro e w2 ⟨s, hs, rfl, hd2⟩
    replace B1 := (hd2.block w.heap.size (by have := (blk B1).2.2.2.2; omega) (by omega)).trans B1
    replace hd2 := hd1.trans hd2
    clear hd1
    obtain ⟨b1, b2, b3, b4, b5⟩ := blk B1
    clear B1
    go_wp2_with fail
    · refine bodyPost_ret (v := clV ⟨true, s.extract 0 12⟩) (results_c rfl rfl (by rw [← ldv_eq]; simp [go_sem, clV, b3])) rfl ⟨⟨true, s.extract 0 12⟩, by simp [clOk]; omega, rfl, ?_⟩
      exact (hd2.setCell hC (by simp) _).setCell hC (by simp) _
    · refine bodyPost_ret (v := clV ⟨true, s⟩) (results_c rfl rfl (by rw [← ldv_eq]; simp [go_sem, clV, b3])) rfl ⟨⟨true, s⟩, by simp [clOk]; omega, rfl, ?_⟩
      exact (hd2.setCell hC (by simp) _).setCell hC (by simp) _

def SomePage (id : Int) (c : Nat) (w : World) (e : Ending) (w' : World) : Prop := ∃ p : Pg, p.id = id ∧ (∀ i, clOk (p.cell i) = true) ∧ e = .returned (.agg (pgA p)) ∧ Dr c w w'

theorem page_stored {w : World} {g : Nat} {p : Pg} (B : w.heap[g]? = some (.cells (pgA p) 32 (0, 0))) (s : Nat) (hs : s < 16) (b : Bool) (d : ByteArray) :
    ((w.setCell ⟨g, 2 + s * 2, none⟩ (.bool b)).setCell ⟨g, 2 + s * 2 + 1, none⟩ (.string d)).heap[g]? = some (.cells (pgA (p.upd s ⟨b, d⟩)) 32 (0, 0)) := by
  rw [heap_setCell_same _ g _ _ 32 _ (heap_setCell_same w g _ _ 32 _ B), pgA_upd p s b d hs]
theorem upd_ok {p : Pg} (h : ∀ i, clOk (p.cell i) = true) (s : Nat) {x : Cl} (hx : clOk x = true) : ∀ i, clOk ((p.upd s x).cell i) = true := by
  intro i
  unfold Pg.upd
  dsimp only
  split
  · exact hx
  · exact h i

set_option maxHeartbeats 2000000 in
set_option maxRecDepth 100000 in
theorem page_any (c : Nat) (id : Int) (w : World) (hC : Cds w c) : Calls Tryz.prog 7 #[.pointer (some ⟨c, 0, none⟩), .int .i64 id] w (SomePage id c w) := by
  have hlt := hC.lt
  go_enter Tryz.func7, Tryz.ntmps7
  go_wp2_with fail
  refine (next_any c 50 _ ((Dr.alloc c w _).cds hC) (by omega) (by omega)).mono ?_
  rintro e w1 ⟨l, hl, rfl, hd1⟩
  have B4 := (hd1.block w.heap.size (by simp) (by omega)).trans (heap_alloc_new w _)
  replace hd1 := (Dr.alloc c w _).trans hd1
  have z1 := (blk B4).2.2.2.2
  go_wp2_with fail
  refine (next_any c 10 _ ((hd1.trans (Dr.alloc c w1 _)).cds hC) (by omega) (by omega)).mono ?_
  rintro e w3 ⟨r2, hr2, rfl, hd2⟩
  replace B4 := (hd2.block w.heap.size (by simp; omega) (by omega)).trans ((Below.heap_alloc w1 _ _ z1).trans B4)
  have B5 := (hd2.block w1.heap.size (by simp) (by omega)).trans (heap_alloc_new w1 _)
  replace hd2 := (hd1.trans (Dr.alloc c w1 _)).trans hd2
  clear hd1
  obtain ⟨q, hq, hq1, hq2⟩ : ∃ q : Pg, q = ⟨id, (l : Int), fun _ => zCl⟩ ∧ q.id = id ∧ ∀ i, clOk (q.cell i) = true := ⟨_, rfl, rfl, fun _ => clOk_zCl⟩
  obtain ⟨g, hg, hg1, hg2⟩ : ∃ g, g = w1.heap.size ∧ w.heap.size < g ∧ g ≠ c := ⟨_, rfl, by omega, by omega⟩
  rw [← hq, ← hg] at B5
  rw [← hg]
  clear hq hg z1
  by_cases h6 : r2 = 9
  case' pos =>
    have e6 : ((r2 : Int) == 9) = true := by simp [h6]
    clear h6
    go_wp2_with fail
    refine (next_any c 2 _ (hd2.cds hC) (by omega) (by omega)).mono ?_
    rintro e w4 ⟨r3, hr3, rfl, hd3⟩
    replace B4 := (hd3.block w.heap.size (blk B4).2.2.2.2 (by omega)).trans B4
    replace B5 := (hd3.block g (blk B5).2.2.2.2 (by omega)).trans B5
    replace hd2 := hd2.trans hd3
    clear hd3
    obtain ⟨b1, b2, b3, b4, b5⟩ := blk B5
    have H4 := Hd.mk B4
    have H5 := Hd.mk B5
    clear B4 B5 b1 b2
    obtain ⟨m, hm, hm0⟩ : ∃ m : Int, IntKind.i64.wrap (1099511627776 - (r3 : Int)) = m ∧ 0 < m := ⟨_, rfl, by rw [IntWalk.i64_in _ (by omega)]; omega⟩
    go_wp2_with fail
    have B5 : (w4.setCell ⟨g, 1, none⟩ (.int .i64 m)).heap[g]? = some (.cells (pgA { q with lsn := m }) 32 (0, 0)) := by rw [heap_setCell_same _ g 1 _ 32 _ H5.out, pgA_lsn]
    have B4 := (Below.heap_setCell w4 ⟨g, 1, none⟩ (.int .i64 m) w.heap.size (by dsimp only; omega)).trans H4.out
    replace hd2 := hd2.setCell hC (a := ⟨g, 1, none⟩) (by dsimp only; omega) (.int .i64 m)
    obtain ⟨w5, hw5⟩ : ∃ w5, w5 = w4.setCell ⟨g, 1, none⟩ (.int .i64 m) := ⟨_, rfl⟩
    rw [← hw5] at B4 B5 hd2 ⊢
    replace hq1 : ({ q with lsn := m } : Pg).id = id := hq1
    replace hq2 : ∀ i, clOk (({ q with lsn := m } : Pg).cell i) = true := hq2
    generalize ({ q with lsn := m } : Pg) = q5 at B5 hq1 hq2
    clear hw5 H4 H5 b3 b4 b5 hm hm0 e6 q
    obtain ⟨q, rfl⟩ : ∃ q, q = q5 := ⟨_, rfl⟩
  case' neg =>
    have e6 : ((r2 : Int) == 9) = false := by simp; omega
    clear h6
    obtain ⟨w5, rfl⟩ : ∃ w5, w5 = w3 := ⟨_, rfl⟩
    obtain ⟨b1, b2, b3, b4, b5⟩ := blk B5
    obtain ⟨d1, d2, d3, d4, d5⟩ := blk B4
    have H4 := Hd.mk B4
    have H5 := Hd.mk B5
    clear B4 B5
    by_cases hl0 : 0 < q.lsn
    case neg =>
      go_wp2_with fail
      refine bodyPost_ret (v := .agg (pgA q)) (results_c rfl rfl (by simp (maxDischargeDepth := 6) [go_sem, b1, d1, d2])) rfl ⟨q, hq1, hq2, rfl, ?_⟩
      exact hd2.setRow hC (by omega) _
    clear b1 b2 d1 d2 d3 d4 d5
    go_wp2_with fail
    have B4 := H4.out
    have B5 := H5.out
    clear H4 H5 b3 b4 b5 hl0 e6
  all_goals
    refine (next_any c 6 _ (hd2.cds hC) (by omega) (by omega)).mono ?_
    rintro e w6 ⟨k0, hk0, rfl, hd3⟩
    replace B4 := (hd3.block w.heap.size (blk B4).2.2.2.2 (by omega)).trans B4
    replace B5 := (hd3.block g (blk B5).2.2.2.2 (by omega)).trans B5
    replace hd2 := hd2.trans hd3
    clear hd3
    have H4 := Hd.mk B4
    have H5 := Hd.mk B5
    clear B4 B5
    go_wp2_with fail
    go_loopw [6] (fun kv wr => ∃ (k : Nat) (q : Pg), kv = .int .i64 (k : Int) ∧ k < 6 ∧ q.id = id ∧ (∀ i, clOk (q.cell i) = true) ∧ Hd (wr.heap[w.heap.size]? = some (.cells (pgA zPg) 32 (0, 0))) ∧ Hd (wr.heap[g]? = some (.cells (pgA q) 32 (0, 0))) ∧ Dr c w wr) (fun kv _ => (intOf kv).toNat)
    case atStart => exact ⟨k0, q, rfl, by omega, hq1, hq2, H4, H5, hd2⟩
    case round =>
      clear H4 H5 hd2 hq1 hq2
      obtain ⟨k, q, rfl, hk, hq1, hq2, H4, H5, hd2⟩ := hrel
      by_cases hlt : 0 < k
      · go_wp2_with fail
        refine (next_any c 16 _ (hd2.cds hC) (by omega) (by omega)).mono ?_
        rintro e w7 ⟨s, hs, rfl, hd3⟩
        have B4 := (hd3.block w.heap.size (blk H4.out).2.2.2.2 (by omega)).trans H4.out
        have B5 := (hd3.block g (blk H5.out).2.2.2.2 (by omega)).trans H5.out
        replace hd3 := hd2.trans hd3
        clear H4 H5 hd2
        have H4 := Hd.mk B4
        have H5 := Hd.mk B5
        clear B4 B5
        go_wp2_with fail
        refine (cell_any c _ (hd3.cds hC)).mono ?_
        rintro e w8 ⟨⟨us, ud⟩, hu, rfl, hd4⟩
        have B4 := (hd4.block w.heap.size (blk H4.out).2.2.2.2 (by omega)).trans H4.out
        have B5 := (hd4.block g (blk H5.out).2.2.2.2 (by omega)).trans H5.out
        replace hd4 := hd3.trans hd4
        clear H4 H5 hd3
        have hs16 : s < 16 := by omega
        obtain ⟨b1, b2, b3, b4, b5⟩ := blk B5
        have H4 := Hd.mk B4
        have H5 := Hd.mk B5
        have e1 := pgA_s q s hs16
        have e2 := pgA_d q s hs16
        clear B4 B5 b1 b2
        simp only [clV]
        go_wp2_with fail
        go_roundw
        case rel =>
          refine ⟨k - 1, q.upd s ⟨us, ud⟩, by congr 1; omega, by omega, hq1, upd_ok hq2 s hu, ⟨?_⟩, ⟨page_stored H5.out s hs16 us ud⟩, (hd4.setCell hC (by dsimp only; omega) _).setCell hC (by dsimp only; omega) _⟩
          rw [Below.heap_setCell _ _ _ _ (by dsimp only; omega), Below.heap_setCell _ _ _ _ (by dsimp only; omega)]
          exact H4.out
        case measure => simp [intOf]; omega
      · obtain ⟨b1, b2, b3, b4, b5⟩ := blk H5.out
        obtain ⟨d1, d2, d3, d4, d5⟩ := blk H4.out
        clear b3 b4 d3 d4
        go_wp2_with fail
        refine bodyPost_ret (v := .agg (pgA q)) (results_c rfl rfl (by simp (maxDischargeDepth := 6) [go_sem, b1, d1, d2])) rfl ⟨q, hq1, hq2, rfl, ?_⟩
        exact hd2.setRow hC (by omega) _

/-! ### the codes -/
def IsBytes (w : World) (a : Option Addr) (n cap : Nat) : Prop := n ≤ cap ∧ n ≤ 9223372036854775807 ∧ ∀ j, j < n → ∃ b o x : Nat, a = some ⟨b, o, none⟩ ∧ b < w.heap.size ∧ x < 256 ∧ w.cell? ⟨b, o + j, none⟩ = some (.int .u8 (x : Int))
def SomeCodes (w : World) (e : Ending) (w' : World) : Prop := ∃ c, w.heap.size ≤ c ∧ Cds w' c ∧ e = .returned (.pointer (some ⟨c, 0, none⟩)) ∧ Below w.heap.size w w'

theorem codes_new {w : World} {a : Option Addr} {n cap : Nat} (h : IsBytes w a n cap) : Cds (w.alloc (.cells #[.slice a n cap, .int .i64 0] 92)) w.heap.size := by
  obtain ⟨h1, h2, h3⟩ := h
  refine ⟨a, n, cap, 0, heap_alloc_new w _, h2, Nat.zero_le _, fun j hj => ?_⟩
  obtain ⟨b, o, x, e1, e2, e3, e4⟩ := h3 j hj
  exact ⟨b, o, x, e1, e2, e3, by rw [World.cell?_of_block (w := w) (Below.heap_alloc _ _ _ e2)]; exact e4⟩

theorem IsBytes.cut {w : World} {a : Option Addr} {n cap m : Nat} (h : IsBytes w a n cap) (hm : m ≤ n) : IsBytes w a m cap :=
  ⟨Nat.le_trans hm h.1, Nat.le_trans hm h.2.1, fun j hj => h.2.2 j (by omega)⟩

set_option maxHeartbeats 1000000 in
theorem new_any (a : Option Addr) (n cap : Nat) (M : Int) (w : World) (hm : 0 < M) (hm2 : M ≤ 1000) (h : IsBytes w a n cap) : Calls Tryz.prog 5 #[.slice a n cap, .int .i64 M] w (SomeCodes w) := by
  have h1 := h.1
  have h2 := h.2.1
  have H := Hd.mk h
  clear h
  obtain ⟨m, rfl⟩ : ∃ m : Nat, M = m := ⟨M.toNat, by omega⟩
  by_cases hlt : m < n
  · go_enter Tryz.func5, Tryz.ntmps5
    go_wp2_with fail
    go_ret
    exact ⟨w.heap.size, Nat.le_refl _, codes_new (H.out.cut (Nat.le_of_lt hlt)), rfl, (Below.refl _ _).alloc (Nat.le_refl _) _⟩
  · go_enter Tryz.func5, Tryz.ntmps5
    go_wp2_with fail
    go_ret
    exact ⟨w.heap.size, Nat.le_refl _, codes_new H.out, rfl, (Below.refl _ _).alloc (Nat.le_refl _) _⟩


end Go.Proofs.YtcjmejokgoefkaaGreat
