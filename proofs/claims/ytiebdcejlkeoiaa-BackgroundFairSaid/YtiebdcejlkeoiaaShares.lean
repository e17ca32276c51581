/- The walk of the law BackgroundShares: it returns true and leaves old memory as it was. -/
import Derived.Test.YtiebdcejlkeoiaaBgDraw
import Derived.Test.YtiebdcejlkeoiaaBgLaw2
namespace Go.Proofs.Ytiebdcejlkeoiaa
open Go.RowKit
set_option linter.unusedSimpArgs false
set_option linter.unusedVariables false

theorem below_cell {B : Nat} {u v : World} (h : Below B u v) (g i : Nat) (x : Value) (hg : B ≤ g) : Below B u (v.setCell ⟨g, i, none⟩ x) := Below.setCell h hg x
theorem sumS_upd (s : Nat → Int) (i : Nat) (x : Int) (n : Nat) (h : n ≤ i) : sumS (updS s i x) n = sumS s n := by
  induction n with
  | zero => rfl
  | succ n ih =>
    unfold sumS
    rw [ih (by omega)]
    simp [updS, show n ≠ i by omega]
theorem updS_at (s : Nat → Int) (i : Nat) (x : Int) : updS s i x i = x := by simp [updS]
theorem sumS_upd' (s : Nat → Int) (i : Nat) (x : Int) : sumS (updS s i x) (i + 1) = sumS s i + x := by
  show sumS (updS s i x) i + updS s i x i = _
  rw [sumS_upd _ _ _ _ (Nat.le_refl _), updS_at]
def lowTo (s : Nat → Int) (n : Nat) : Prop := ∀ i, i < n → 0 ≤ s i ∧ s i ≤ 3
theorem lowTo_upd {s : Nat → Int} {n : Nat} {x : Int} (h : lowTo s n) (h0 : 0 ≤ x) (h3 : x ≤ 3) : lowTo (updS s n x) (n + 1) := by
  intro i hi
  by_cases he : i = n
  · subst he; rw [updS_at]; exact ⟨h0, h3⟩
  · rw [show updS s n x i = s i by simp [updS, he]]; exact h i (by omega)
theorem sum_low {s : Nat → Int} {n : Nat} (h : lowTo s n) : 0 ≤ sumS s n ∧ sumS s n ≤ 3 * n := by
  induction n with
  | zero => simp [sumS]
  | succ n ih =>
    have h1 := ih (fun i hi => h i (by omega))
    have h2 := h n (by omega)
    unfold sumS
    omega
theorem low_sh {s : Nat → Int} (h : lowTo s 8) : shB s = true := (shB_iff s).2 fun i hi => ⟨(h i hi).1, by have := (h i hi).2; omega⟩
theorem zero_none {s : Nat → Int} {l : List Wk} (h : lowTo s 8) (h0 : sumS s 8 = 0) : someQ s l = false := by
  rw [Bool.eq_false_iff]
  intro ht
  simp only [someQ, List.any_eq_true, List.mem_range, off, Bool.and_eq_true, decide_eq_true_eq] at ht
  obtain ⟨i, hi, -, hp⟩ := ht
  have a0 := (h 0 (by omega)).1; have a1 := (h 1 (by omega)).1; have a2 := (h 2 (by omega)).1; have a3 := (h 3 (by omega)).1
  have a4 := (h 4 (by omega)).1; have a5 := (h 5 (by omega)).1; have a6 := (h 6 (by omega)).1; have a7 := (h 7 (by omega)).1
  simp only [sumS] at h0
  have hc : i = 0 ∨ i = 1 ∨ i = 2 ∨ i = 3 ∨ i = 4 ∨ i = 5 ∨ i = 6 ∨ i = 7 := by omega
  rcases hc with rfl | rfl | rfl | rfl | rfl | rfl | rfl | rfl <;> omega
theorem allW_take (i : Nat) (hi : i < 8) : allW.take (i + 1) = allW.take i ++ [((i : Int) + 1, (i : Int))] := by
  rcases i with _|_|_|_|_|_|_|_|i <;> first | rfl | omega
theorem own_wcur {w : World} {base n : Nat} {v : Value} {l : List Wk} (h : w.ownsRow base 70 2 v n (flatW l)) (hn : n = l.length) (hl : 0 < l.length) :
    ∃ (g cap : Nat) (cur : Array Value), v = .slice (some ⟨g, 0, none⟩) n cap ∧ base ≤ g ∧ w.heap[g]? = some (.cells cur 70 (0, 0)) ∧ ∀ W : World, W.heap[g]? = some (.cells cur 70 (0, 0)) → WkIn W g l := by
  subst hn
  have h' := h
  rcases h'.2 with ⟨_, h0⟩ | ⟨g, cap, cur, rfl, hb, hg, h1, h2, h3, h4⟩
  · omega
  · refine ⟨g, cap, cur, rfl, hb, hg, fun W hW => ?_⟩
    rcases own_wks h with h5 | ⟨g', hg', hc⟩
    · rw [h5] at hl; simp at hl
    · simp only [Option.some.injEq, Addr.mk.injEq] at hg'
      obtain ⟨rfl, -, -⟩ := hg'
      exact ⟨(Array.getElem?_eq_some_iff.1 hW).1, fun k x hk => by
        have := hc.2 k x hk
        exact ⟨(World.cell?_of_block (w := w) (hW.trans hg.symm)).trans this.1, (World.cell?_of_block (w := w) (hW.trans hg.symm)).trans this.2⟩⟩

set_option maxHeartbeats 8000000 in
set_option maxRecDepth 100000 in
theorem shares_walk (a : Option Addr) (n cap : Nat) (m : Nat) (w : World) (h : IsBytes w a n cap) (hm : m < 256) : Calls Try.prog 11 #[.slice a n cap, .int .u8 (m : Int)] w fun e w' => e = .returned (.bool true) ∧ Below w.heap.size w w' := by
  obtain ⟨i0, hi, hz0, hz1, hz2⟩ := info_parts info70r
  have HI := Hd.mk (And.intro hi (And.intro hz0 (And.intro hz1 hz2)))
  clear hi hz0 hz1 hz2
  go_enter Try.func11, Try.ntmps11
  go_wp2_with fail
  refine (awake34 _).mono ?_
  rintro e w1 ⟨rfl, hb1⟩
  have Q0 : Pre w.heap.size w [] w1 := (Pre.nil w).step hb1
  have H := Hd.mk (h.below' Q0.below)
  have HQ := Hd.mk Q0
  clear h hb1 Q0
  go_wp2_with fail
  refine (new_any a n cap 100 _ (by omega) (by omega) H.out).mono ?_
  rintro e w2 ⟨c, hc, hC, rfl, hb2⟩
  have S := HQ.out.sk hb2 hC hc
  clear H HQ hC hb2 hc
  have HS := Hd.mk S
  clear S
  go_wp2_with fail
  refine (shares35 c _ HS.out.cds).mono ?_
  rintro e w3 ⟨s, rfl, hd⟩
  have S := (HS.out.dr hd).alloc (shA s) 61 w3.heap.size rfl
  clear HS hd
  obtain ⟨g6, hg6⟩ : ∃ g, g = w3.heap.size := ⟨_, rfl⟩
  have HC6 : Hd (c < g6) := ⟨by rw [hg6]; have h1 := S.cds.lt; have h2 := (S.mem (w3.heap.size, shA s, 61) (by simp)).1.1; simp at h1; dsimp only at h2; omega⟩
  rw [← hg6] at S
  have HZ6 : Hd (g6 + 1 = (w3.alloc (.cells (shA s) 61)).heap.size) := ⟨by simp [hg6]⟩
  have HS := Hd.mk S
  clear S
  go_wp2_with fail
  rw [← hg6]
  clear hg6
  go_loopw [7, 8, 9] (fun v sm iv wr => ∃ (i : Nat) (t : Nat → Int), i ≤ 8 ∧ iv = .int .i64 (i : Int) ∧ sm = .int .i64 (sumS t i) ∧ Hd (wr.ownsRow (g6 + 1) 70 2 v i (flatW (allW.take i))) ∧ Hd (lowTo t i) ∧ Hd (Sk c w.heap.size w [(g6, shA t, 61)] wr) ∧ Hd (g6 + 1 ≤ wr.heap.size)) (fun _ _ iv _ => 8 - (intOf iv).toNat)
  case atStart => exact ⟨0, s, by omega, rfl, rfl, ⟨World.ownsRow_nil _ _ _ _⟩, ⟨fun i hi => by omega⟩, HS, ⟨by rw [HZ6.out]; exact Nat.le_refl _⟩⟩
  case round =>
    clear HS HZ6
    obtain ⟨i, t, hi, rfl, rfl, HO, HL, HS, HZ⟩ := hrel
    by_cases hlt : i < 8
    · have q1 : (i : Int) < 8 := by omega
      have hcell := shA_s t i hlt
      have hsb := sum_low HL.out
      obtain ⟨q2, q3⟩ := hsb
      obtain ⟨b1, b2⟩ := HS.out.cellsAt g6 (shA t) 61 (by simp)
      by_cases h0 : t i < 0
      case pos =>
        have HO2 : Hd ((wr.setCell ⟨g6, i, none⟩ (.int .i64 0)).ownsRow (g6 + 1) 70 2 u7 i (flatW (allW.take i))) := ⟨own_blk HO.out (fun k h1 h2 => Below.heap_setCell _ _ _ _ (by dsimp only; omega))⟩
        have S2 := HS.out.setCell g6 (shA t) 61 (by simp) HC6.out i (.int .i64 0) (l' := []) (fun z hz => by cases hz)
        rw [shA_upd t i 0 hlt] at S2
        have HS2 := Hd.mk S2
        have HZ2 : Hd (g6 + 1 ≤ (wr.setCell ⟨g6, i, none⟩ (.int .i64 0)).heap.size) := ⟨by simpa using HZ.out⟩
        have HL2 : Hd (lowTo (updS t i 0) (i + 1)) := ⟨lowTo_upd HL.out (by omega) (by omega)⟩
        have HNEW : Hd (((wr.setCell ⟨g6, i, none⟩ (.int .i64 0)).alloc (.cells #[.int .i64 ((i : Int) + 1), .int .i64 (i : Int)] 70)).heap[wr.heap.size]? = some (.cells #[.int .i64 ((i : Int) + 1), .int .i64 (i : Int)] 70)) := ⟨by have := heap_alloc_new (wr.setCell ⟨g6, i, none⟩ (.int .i64 0)) (.cells #[.int .i64 ((i : Int) + 1), .int .i64 (i : Int)] 70); simpa using this⟩
        clear S2 HO HS
        go_wp2_with (at_builtin; refine wpList_append_lies _ rfl _ _ _ rfl (g6 + 1) 70 i0 (.agg #[.int .i64 0, .int .i64 0]) 2 16 Try.underlying67 HI.out.1 HI.out.2.1 HI.out.2.2.1 HI.out.2.2.2 rfl (by decide) u7 i (flatW (allW.take i)) (by rfl) (HO2.out.alloc _) ⟨wr.heap.size, 0, none⟩ 1 1 [.int .i64 ((i : Int) + 1), .int .i64 (i : Int)] (by rfl) (by rfl) (World.news_of_block HNEW.out) (by simp [Value.oneCell']) (by decide) (by unfold maxLen; omega) (by omega) (Nat.le_trans HZ2.out (by simp)) _ rfl ?_; intro g cap' w8 hown hgrow hat hlt2)
        have HO3 : Hd (w8.ownsRow (g6 + 1) 70 2 (.slice (some ⟨g, 0, none⟩) (i + 1) cap') (i + 1) (flatW (allW.take (i + 1)))) := ⟨by rw [allW_take i hlt, flatW_snoc]; exact hown⟩
        have HS3 := Hd.mk ((HS2.out.dr (Dr.alloc c _ _)).grown hgrow (fun k hk => ⟨by have := (HO2.out.lt k hk).1; have := HC6.out; omega, fun z hz => by have := (HO2.out.lt k hk).1; simp at hz; subst hz; dsimp only; omega⟩))
        have HZ3 : Hd (g6 + 1 ≤ w8.heap.size) := ⟨Nat.le_trans (Nat.le_trans HZ2.out (by simp)) hgrow.size⟩
        have HSUM := Hd.mk (sumS_upd' t i 0)
        clear hown hgrow hat hlt2 HO2 HS2 HZ2 b1 b2 h0
        go_roundw
        case rel => exact ⟨i + 1, updS t i 0, by omega, by go_num, by first | (rw [HSUM.out]; done) | (rw [HSUM.out]; congr 1; omega), HO3, HL2, HS3, HZ3⟩
        case measure => simp [intOf]; omega
      case neg =>
        have h1 : 0 ≤ t i := by omega
        by_cases h3 : 3 < t i
        case pos =>
          have HO2 : Hd ((wr.setCell ⟨g6, i, none⟩ (.int .i64 3)).ownsRow (g6 + 1) 70 2 u7 i (flatW (allW.take i))) := ⟨own_blk HO.out (fun k h1 h2 => Below.heap_setCell _ _ _ _ (by dsimp only; omega))⟩
          have S2 := HS.out.setCell g6 (shA t) 61 (by simp) HC6.out i (.int .i64 3) (l' := []) (fun z hz => by cases hz)
          rw [shA_upd t i 3 hlt] at S2
          have HS2 := Hd.mk S2
          have HZ2 : Hd (g6 + 1 ≤ (wr.setCell ⟨g6, i, none⟩ (.int .i64 3)).heap.size) := ⟨by simpa using HZ.out⟩
          have HL2 : Hd (lowTo (updS t i 3) (i + 1)) := ⟨lowTo_upd HL.out (by omega) (by omega)⟩
          have HNEW : Hd (((wr.setCell ⟨g6, i, none⟩ (.int .i64 3)).alloc (.cells #[.int .i64 ((i : Int) + 1), .int .i64 (i : Int)] 70)).heap[wr.heap.size]? = some (.cells #[.int .i64 ((i : Int) + 1), .int .i64 (i : Int)] 70)) := ⟨by have := heap_alloc_new (wr.setCell ⟨g6, i, none⟩ (.int .i64 3)) (.cells #[.int .i64 ((i : Int) + 1), .int .i64 (i : Int)] 70); simpa using this⟩
          clear S2 HO HS
          go_wp2_with (at_builtin; refine wpList_append_lies _ rfl _ _ _ rfl (g6 + 1) 70 i0 (.agg #[.int .i64 0, .int .i64 0]) 2 16 Try.underlying67 HI.out.1 HI.out.2.1 HI.out.2.2.1 HI.out.2.2.2 rfl (by decide) u7 i (flatW (allW.take i)) (by rfl) (HO2.out.alloc _) ⟨wr.heap.size, 0, none⟩ 1 1 [.int .i64 ((i : Int) + 1), .int .i64 (i : Int)] (by rfl) (by rfl) (World.news_of_block HNEW.out) (by simp [Value.oneCell']) (by decide) (by unfold maxLen; omega) (by omega) (Nat.le_trans HZ2.out (by simp)) _ rfl ?_; intro g cap' w8 hown hgrow hat hlt2)
          have HO3 : Hd (w8.ownsRow (g6 + 1) 70 2 (.slice (some ⟨g, 0, none⟩) (i + 1) cap') (i + 1) (flatW (allW.take (i + 1)))) := ⟨by rw [allW_take i hlt, flatW_snoc]; exact hown⟩
          have HS3 := Hd.mk ((HS2.out.dr (Dr.alloc c _ _)).grown hgrow (fun k hk => ⟨by have := (HO2.out.lt k hk).1; have := HC6.out; omega, fun z hz => by have := (HO2.out.lt k hk).1; simp at hz; subst hz; dsimp only; omega⟩))
          have HZ3 : Hd (g6 + 1 ≤ w8.heap.size) := ⟨Nat.le_trans (Nat.le_trans HZ2.out (by simp)) hgrow.size⟩
          have HSUM := Hd.mk (sumS_upd' t i 3)
          clear hown hgrow hat hlt2 HO2 HS2 HZ2 b1 b2 h1 h3 h0
          go_roundw
          case rel => exact ⟨i + 1, updS t i 3, by omega, by go_num, by first | (rw [HSUM.out]; done) | (rw [HSUM.out]; congr 1; omega), HO3, HL2, HS3, HZ3⟩
          case measure => simp [intOf]; omega
        case neg =>
          have h4 : t i ≤ 3 := by omega
          have HO2 : Hd ((wr.setCell ⟨g6, i, none⟩ (.int .i64 (t i))).ownsRow (g6 + 1) 70 2 u7 i (flatW (allW.take i))) := ⟨own_blk HO.out (fun k h1 h2 => Below.heap_setCell _ _ _ _ (by dsimp only; omega))⟩
          have S2 := HS.out.setCell g6 (shA t) 61 (by simp) HC6.out i (.int .i64 (t i)) (l' := []) (fun z hz => by cases hz)
          rw [shA_upd t i (t i) hlt] at S2
          have HS2 := Hd.mk S2
          have HZ2 : Hd (g6 + 1 ≤ (wr.setCell ⟨g6, i, none⟩ (.int .i64 (t i))).heap.size) := ⟨by simpa using HZ.out⟩
          have HL2 : Hd (lowTo (updS t i (t i)) (i + 1)) := ⟨lowTo_upd HL.out (by omega) (by omega)⟩
          have HNEW : Hd (((wr.setCell ⟨g6, i, none⟩ (.int .i64 (t i))).alloc (.cells #[.int .i64 ((i : Int) + 1), .int .i64 (i : Int)] 70)).heap[wr.heap.size]? = some (.cells #[.int .i64 ((i : Int) + 1), .int .i64 (i : Int)] 70)) := ⟨by have := heap_alloc_new (wr.setCell ⟨g6, i, none⟩ (.int .i64 (t i))) (.cells #[.int .i64 ((i : Int) + 1), .int .i64 (i : Int)] 70); simpa using this⟩
          clear S2 HO HS
          go_wp2_with (at_builtin; refine wpList_append_lies _ rfl _ _ _ rfl (g6 + 1) 70 i0 (.agg #[.int .i64 0, .int .i64 0]) 2 16 Try.underlying67 HI.out.1 HI.out.2.1 HI.out.2.2.1 HI.out.2.2.2 rfl (by decide) u7 i (flatW (allW.take i)) (by rfl) (HO2.out.alloc _) ⟨wr.heap.size, 0, none⟩ 1 1 [.int .i64 ((i : Int) + 1), .int .i64 (i : Int)] (by rfl) (by rfl) (World.news_of_block HNEW.out) (by simp [Value.oneCell']) (by decide) (by unfold maxLen; omega) (by omega) (Nat.le_trans HZ2.out (by simp)) _ rfl ?_; intro g cap' w8 hown hgrow hat hlt2)
          have HO3 : Hd (w8.ownsRow (g6 + 1) 70 2 (.slice (some ⟨g, 0, none⟩) (i + 1) cap') (i + 1) (flatW (allW.take (i + 1)))) := ⟨by rw [allW_take i hlt, flatW_snoc]; exact hown⟩
          have HS3 := Hd.mk ((HS2.out.dr (Dr.alloc c _ _)).grown hgrow (fun k hk => ⟨by have := (HO2.out.lt k hk).1; have := HC6.out; omega, fun z hz => by have := (HO2.out.lt k hk).1; simp at hz; subst hz; dsimp only; omega⟩))
          have HZ3 : Hd (g6 + 1 ≤ w8.heap.size) := ⟨Nat.le_trans (Nat.le_trans HZ2.out (by simp)) hgrow.size⟩
          have HSUM := Hd.mk (sumS_upd' t i (t i))
          clear hown hgrow hat hlt2 HO2 HS2 HZ2 b1 b2 h1 h4 h3 h0
          go_roundw
          case rel => exact ⟨i + 1, updS t i (t i), by omega, by go_num, by first | (rw [HSUM.out]; done) | (rw [HSUM.out]; congr 1; omega), HO3, HL2, HS3, HZ3⟩
          case measure => simp [intOf]; omega
    · obtain rfl : i = 8 := by omega
      obtain ⟨gA, cA, cur, rfl, hg1, hg2, hR⟩ := own_wcur (l := allW) HO.out rfl (by decide)
      have HR := Hd.mk hR
      have hcB := HC6.out
      have S := HS.out.cons hg2 (by omega) (by have := HS.out.hc; omega)
      have l1 := run_ld61 _ g6 t (S.at g6 (shA t) 61 (by simp)).1
      have HA6 : Hd (g6 < gA) := ⟨by omega⟩
      replace HS := Hd.mk S
      clear S HO hg1 hg2 hR hcB HZ
      go_wp2_with fail
      refine (new36 t _).mono ?_
      rintro e w4 ⟨rfl, hb⟩
      rw [newF_ok (low_sh HL.out)]
      dsimp only
      have S := HS.out.step hb
      have HC4 : Hd (c < w4.heap.size ∧ gA < w4.heap.size) := ⟨S.cds.lt, S.lt (x := (gA, cur, 70)) (by simp)⟩
      replace S := S.alloc (quA ⟨t, 1, 0⟩) 64 w4.heap.size rfl
      obtain ⟨b1, b2, b3, b4⟩ := S.at w4.heap.size (quA ⟨t, 1, 0⟩) 64 (by simp)
      replace HS := Hd.mk S
      clear S hb l1
      have q2 : 0 ≤ sumS t 8 := (sum_low HL.out).1
      have q3 : sumS t 8 ≤ 24 := by have := (sum_low HL.out).2; omega
      go_wp2_with fail
      refine (round43 ⟨t, 1, 0⟩ _).mono ?_
      rintro e w5 ⟨rfl, hb⟩
      have hrd : roundF ⟨t, 1, 0⟩ = sumS t 8 := by unfold roundF; rw [vq_new (low_sh HL.out)]; rfl
      rw [hrd]
      clear hrd b1 b2 b3 b4
      have S := HS.out.step hb
      obtain ⟨g10, hg10⟩ : ∃ g, g = w4.heap.size := ⟨_, rfl⟩
      rw [← hg10] at S HC4 ⊢
      have HX : Hd (vq ⟨t, 1, 0⟩ = true) := ⟨vq_new (low_sh HL.out)⟩
      clear hb HS hg10
      have HWK : Hd (∀ W : World, Sk c w.heap.size w [(g10, quA ⟨t, 1, 0⟩, 64), (gA, cur, 70), (g6, shA t, 61)] W → WkS W (some ⟨gA, 0, none⟩) allW) := ⟨fun W hW => .inr ⟨gA, rfl, HR.out W (hW.mem (gA, cur, 70) (by simp)).2⟩⟩
      by_cases h0 : sumS t 8 = 0
      case pos =>
        have e0 : (sumS t 8 == 0) = true := by simp [h0]
        have HN := Hd.mk (next_none (l := allW) HX.out (zero_none HL.out h0))
        obtain ⟨b1, b2, b3, b4⟩ := S.at g10 (quA ⟨t, 1, 0⟩) 64 (by simp)
        have HS := Hd.mk S
        clear S h0
        go_wp2_with fail
        refine (next38 (some ⟨gA, 0, none⟩) cA allW ⟨t, 1, 0⟩ _ (by decide) (HWK.out _ HS.out)).mono ?_
        rintro e w6 ⟨rfl, hb⟩
        rw [HN.out]
        dsimp only
        have HS2 := Hd.mk ((HS.out.step hb).below.trans (Below.refl _ _))
        clear hb b1 b2 b3 b4
        go_wp2_with fail
        go_ret
        exact ⟨rfl, (HS2.out.alloc (by have := HS2.out.size; have := HS.out.hB; omega) _).alloc (by have := HS2.out.size; have := HS.out.hB; simp; omega) _⟩
      case neg =>
        have e0 : (sumS t 8 == 0) = false := by simpa using h0
        have HS := Hd.mk S
        clear S
        go_wp2_with fail
        go_loopw [16] (fun nv wr => ∃ (nn r : Nat) (q : Qu), nn ≤ 4 ∧ nv = .int .i64 (nn : Int) ∧ Hd (AllI t ((r : Int) * sumS t 8) q) ∧ Hd (Sk c w.heap.size w [(g10, quA q, 64), (gA, cur, 70), (g6, shA t, 61)] wr)) (fun nv _ => (intOf nv).toNat)
        case atStart => exact ⟨m % 5, 0, ⟨t, 1, 0⟩, by omega, by rw [Int.natCast_emod]; rfl, ⟨by simpa using all_start (low_sh HL.out)⟩, HS⟩
        case round =>
          clear HS HWK HX
          obtain ⟨nn, r, q, hnn, rfl, HA, HS⟩ := hrel
          obtain ⟨wq, rfl⟩ : ∃ W : World, W = wr := ⟨_, rfl⟩
          by_cases hn0 : 0 < nn
          · have q4 : (nn : Int) > 0 := by omega
            have HC17 : Hd (c < wq.heap.size ∧ g10 < wq.heap.size) := ⟨HS.out.cds.lt, HS.out.lt (x := (g10, quA q, 64)) (by simp)⟩
            have S := HS.out.alloc (shA fun _ => 0) 61 wq.heap.size rfl
            obtain ⟨b17, hb17⟩ : ∃ b, b = wq.heap.size := ⟨_, rfl⟩
            rw [← hb17] at S HC17
            replace HS := Hd.mk S
            clear S
            go_wp2_with fail
            rw [← hb17]
            clear hb17
            go_loopw [18] (fun kv wr => ∃ (kk : Nat) (q : Qu) (G : Nat → Int), (kk : Int) ≤ sumS t 8 ∧ kv = .int .i64 (kk : Int) ∧ Hd (∀ i, i < 8 → G i = gotF t kk i) ∧ Hd (AllI t ((r : Int) * sumS t 8 + kk) q) ∧ Hd (Sk c w.heap.size w [(b17, shA G, 61), (g10, quA q, 64), (gA, cur, 70), (g6, shA t, 61)] wr)) (fun kv _ => (sumS t 8).toNat - (intOf kv).toNat)
            case atStart => exact ⟨0, q, fun _ => 0, by simpa using q2, rfl, ⟨fun i hi => (got_zero (fun i hi => (HL.out i hi).1) i).symm⟩, ⟨by simpa using HA.out⟩, HS⟩
            case round =>
              clear HS HA
              obtain ⟨kk, q, G, hkk, rfl, HG, HA, HS⟩ := hrel
              obtain ⟨wq2, rfl⟩ : ∃ W : World, W = wr := ⟨_, rfl⟩
              by_cases hk : (kk : Int) < sumS t 8
              · obtain ⟨b1, b2, b3, b4⟩ := HS.out.at g10 (quA q) 64 (by simp)
                have HWK : Hd (WkS wq2 (some ⟨gA, 0, none⟩) allW) := ⟨.inr ⟨gA, rfl, HR.out _ (HS.out.mem (gA, cur, 70) (by simp)).2⟩⟩
                go_wp2_with fail
                refine (next38 (some ⟨gA, 0, none⟩) cA allW q _ (by decide) HWK.out).mono ?_
                rintro e w6 ⟨rfl, hb⟩
                have HN := Hd.mk (all_next (r := r) (by omega) hk HA.out)
                generalize nextF q allW = R at HN ⊢
                obtain ⟨x, ⟨y, z⟩, ok, e⟩ := R
                obtain rfl : e = 0 := HN.out.e
                obtain rfl : ok = true := HN.out.ok
                obtain ⟨jj, hj8, hyz, hgot⟩ := HN.out.w
                dsimp only at hyz ⊢
                simp only [Prod.mk.injEq] at hyz
                obtain ⟨rfl, rfl⟩ := hyz
                have HGN := Hd.mk (hgot G HG.out)
                have HAN := Hd.mk HN.out.i
                have S := ((HS.out.step hb).alloc (quA x) 64 w6.heap.size rfl).alloc #[.int .i64 ((jj : Int) + 1), .int .i64 (jj : Int)] 70 (w6.heap.size + 1) (by simp)
                have HC6' : Hd (g10 < w6.heap.size) := ⟨(HS.out.step hb).lt (x := (g10, quA q, 64)) (by simp)⟩
                clear hb b1 b2 b3 b4 HN hgot HS HWK
                obtain ⟨b1, b2, b3, b4⟩ := S.at w6.heap.size (quA x) 64 (by simp)
                obtain ⟨c1, c2, c3, c4⟩ := S.at g10 (quA q) 64 (by simp)
                obtain ⟨d1, d2⟩ := S.cellsAt (w6.heap.size + 1) #[.int .i64 ((jj : Int) + 1), .int .i64 (jj : Int)] 70 (by simp)
                obtain ⟨f1, f2, f3, f4, f5⟩ := blk (S.mem (b17, shA G, 61) (by simp)).2
                have hcell := shA_s G jj hj8
                have q5 : (jj : Int) < 8 := by omega
                have n1 : b17 ≠ g10 := by have := HC17.out; omega
                have n2 : w6.heap.size + 1 ≠ g10 := by have := HC6'.out; omega
                have hgb : 0 ≤ G jj ∧ G jj ≤ 3 := by
                  rw [HG.out jj hj8]; have := HL.out jj hj8; unfold gotF; omega
                obtain ⟨q6, q7⟩ := hgb
                have S1 := S.sub (l' := [(b17, shA G, 61), (g10, quA q, 64), (gA, cur, 70), (g6, shA t, 61)]) (fun z hz => by simp at hz ⊢; rcases hz with rfl | rfl | rfl | rfl <;> simp)
                have S2 := S1.setRow g10 (quA q) (quA x) 64 (by simp) HC4.out.1 (l' := [(b17, shA G, 61), (gA, cur, 70), (g6, shA t, 61)]) (fun z hz => ⟨by simp at hz ⊢; rcases hz with rfl | rfl | rfl <;> simp, by have h1 := HC17.out; have h2 := HC4.out; have h3 := HA6.out; simp at hz; rcases hz with rfl | rfl | rfl <;> dsimp only <;> omega⟩)
                have S3 := S2.setCell b17 (shA G) 61 (by simp) HC17.out.1 jj (.int .i64 (G jj + 1)) (l' := [(g10, quA x, 64), (gA, cur, 70), (g6, shA t, 61)]) (fun z hz => ⟨by simp at hz ⊢; rcases hz with rfl | rfl | rfl <;> simp, by have h1 := HC17.out; have h2 := HC4.out; have h3 := HA6.out; simp at hz; rcases hz with rfl | rfl | rfl <;> dsimp only <;> omega⟩)
                rw [shA_upd G jj _ hj8] at S3
                have HS3 := Hd.mk S3
                clear S S1 S2 S3
                go_wp2_with fail
                go_roundw
                case rel => exact ⟨kk + 1, x, updS G jj (G jj + 1), by omega, by go_num, ⟨fun i hi => by have := HGN.out i hi; unfold updS; rw [this]; rfl⟩, ⟨by have := HAN.out; rw [show ((kk + 1 : Nat) : Int) = (kk : Int) + 1 from rfl]; exact this⟩, HS3⟩
                case measure => simp [intOf]; omega
              · have hke : (kk : Int) = sumS t 8 := by omega
                have e1 : shEq G t = true := shEq_of fun i hi => by rw [HG.out i hi, hke]; exact got_full (fun i hi => (HL.out i hi).1) i hi
                have HA2 : Hd (AllI t (((r + 1 : Nat) : Int) * sumS t 8) q) := ⟨by have := HA.out; rw [hke] at this; rw [show ((r + 1 : Nat) : Int) = (r : Int) + 1 from rfl, Int.add_mul, Int.one_mul]; exact this⟩
                obtain ⟨b1, b2, b3, b4⟩ := HS.out.at b17 (shA G) 61 (by simp)
                obtain ⟨c1, c2, c3, c4⟩ := HS.out.at g6 (shA t) 61 (by simp)
                have l1 := run_ld61 _ b17 G b1
                have l2 := run_ld61 _ g6 t c1
                have HS5 := Hd.mk (HS.out.sub (l' := [(g10, quA q, 64), (gA, cur, 70), (g6, shA t, 61)]) (fun z hz => List.mem_cons_of_mem _ hz))
                clear hke b1 b2 b3 b4 c1 c2 c3 c4
                go_wp2_with fail
                go_roundw
                case rel => exact ⟨nn - 1, r + 1, q, by omega, by congr 1; omega, HA2, HS5⟩
                case measure => simp [intOf]; omega
          · go_wp2_with fail
            go_ret
            exact ⟨rfl, HS.out.below⟩
end Go.Proofs.Ytiebdcejlkeoiaa
