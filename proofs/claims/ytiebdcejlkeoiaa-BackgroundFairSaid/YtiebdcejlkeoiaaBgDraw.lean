/- What the laws of the queue draw: shares, offered work; and their sanity check. -/
import Derived.Test.YtiebdcejlkeoiaaBgNext38
import Derived.Deep.AppendLies
namespace Go.Proofs.Ytiebdcejlkeoiaa
open Go.RowKit
set_option linter.unusedSimpArgs false
set_option linter.unusedVariables false

def SomeSh (c : Nat) (w : World) (e : Ending) (w' : World) : Prop := ∃ s : Nat → Int, e = .returned (.agg (shA s)) ∧ Dr c w w'
theorem results_c61 {fn : Func} {p : Tmp} (h : fn.results = #[.cell p 61]) {tmps : Array Value} {w : World} {a : Addr} {v : Value}
    (hp : tmps.getD p undef = .pointer (some a)) (hl : (ldv 61 a).run Try.prog w = .ok v w) : (results fn tmps).run Try.prog w = .ok v w := results_c h hp hl

set_option maxHeartbeats 2000000 in
theorem shares35 (c : Nat) (w : World) (hC : Cds w c) : Calls Try.prog 35 #[.pointer (some ⟨c, 0, none⟩)] w (SomeSh c w) := by
  have hlt := hC.lt
  have HC := Hd.mk hC
  obtain ⟨H, hH⟩ : ∃ H, H = w.heap.size := ⟨_, rfl⟩
  have HH := Hd.mk hH
  have A1 : Hd (((w.alloc (.cells (shA fun _ => 0) 61)).alloc (.cells (shA fun _ => 0) 61)).heap[H]? = some (.cells (shA fun _ => 0) 61 (0, 0))) := ⟨by rw [hH]; exact heap_alloc2_old w _ _⟩
  have A2 : Hd (((w.alloc (.cells (shA fun _ => 0) 61)).alloc (.cells (shA fun _ => 0) 61)).heap[H + 1]? = some (.cells (shA fun _ => 0) 61 (0, 0))) := ⟨by rw [hH]; exact heap_alloc2_new w _ _⟩
  have AD : Hd (Dr c w ((w.alloc (.cells (shA fun _ => 0) 61)).alloc (.cells (shA fun _ => 0) 61))) := ⟨(Dr.alloc c w _).trans (Dr.alloc c _ _)⟩
  clear hC
  go_enter Try.func35, Try.ntmps35
  go_wp2_with fail
  rw [← hH] at hlt ⊢
  clear hH
  go_loopw [4] (fun v wr => ∃ (k : Nat) (s : Nat → Int), k ≤ 8 ∧ v = .int .i64 (k : Int) ∧ Hd (wr.heap[H]? = some (.cells (shA fun _ => 0) 61 (0, 0))) ∧ Hd (wr.heap[H + 1]? = some (.cells (shA s) 61 (0, 0))) ∧ Hd (Dr c w wr)) (fun v _ => 8 - (intOf v).toNat)
  case atStart => exact ⟨0, _, by omega, rfl, A1, A2, AD⟩
  case round =>
    clear A1 A2 AD
    obtain ⟨k, s, hk, rfl, A1, A2, AD⟩ := hrel
    by_cases hlt8 : k < 8
    · have q1 : (k : Int) < 8 := by omega
      go_wp2_with fail
      refine (next_any c 4 _ (AD.out.cds HC.out) (by omega) (by omega)).mono ?_
      rintro e w1 ⟨r, hr, rfl, hd1⟩
      have B1 := (hd1.block H (blk A1.out).2.2.2.2 (by omega)).trans A1.out
      have B2 := (hd1.block (H + 1) (blk A2.out).2.2.2.2 (by omega)).trans A2.out
      have hcell := shA_s s k hlt8
      have AD2 := Hd.mk (AD.out.trans hd1)
      obtain ⟨b1, b2, b3, b4, b5⟩ := blk B2
      have B3 := heap_setCell_same w1 (H + 1) k (shA s) 61 (.int .i64 (r : Int)) B2
      rw [shA_upd s k r hlt8] at B3
      have C3 := Hd.mk B3
      have C1 : Hd ((w1.setCell ⟨H + 1, k, none⟩ (.int .i64 (r : Int))).heap[H]? = some (.cells (shA fun _ => 0) 61 (0, 0))) := ⟨(Below.heap_setCell _ _ _ _ (by dsimp only; omega)).trans B1⟩
      have C2 : Hd (Dr c w (w1.setCell ⟨H + 1, k, none⟩ (.int .i64 (r : Int)))) := ⟨AD2.out.setCell HC.out (by rw [← HH.out]; dsimp only; omega) _⟩
      clear hd1 B1 B2 B3 A1 A2 AD AD2
      go_wp2_with fail
      go_roundw
      case rel => exact ⟨k + 1, updS s k r, by omega, by go_num, C1, C3, C2⟩
      case measure => simp [intOf]; omega
    · obtain rfl : k = 8 := by omega
      go_wp2_with fail
      refine (next_any c 12 _ (AD.out.cds HC.out) (by omega) (by omega)).mono ?_
      rintro e w1 ⟨r, hr, rfl, hd1⟩
      have B1 := Hd.mk ((hd1.block H (blk A1.out).2.2.2.2 (by omega)).trans A1.out)
      have B2 := Hd.mk ((hd1.block (H + 1) (blk A2.out).2.2.2.2 (by omega)).trans A2.out)
      have AD2 := Hd.mk (AD.out.trans hd1)
      clear hd1 A1 A2 AD
      by_cases h11 : r = 11
      case pos =>
        have e1 : ((r : Int) == 11) = true := by simp [h11]
        clear h11
        go_wp2_with fail
        refine (next_any c 8 _ (AD2.out.cds HC.out) (by omega) (by omega)).mono ?_
        rintro e w2 ⟨k, hk8, rfl, hd1⟩
        replace B1 := Hd.mk ((hd1.block H (blk B1.out).2.2.2.2 (by omega)).trans B1.out)
        replace B2 := Hd.mk ((hd1.block (H + 1) (blk B2.out).2.2.2.2 (by omega)).trans B2.out)
        replace AD2 := Hd.mk (AD2.out.trans hd1)
        clear hd1
        go_wp2_with fail
        refine (int_any c _ (AD2.out.cds HC.out)).mono ?_
        rintro e w3 ⟨z, rfl, hd1⟩
        replace B1 := Hd.mk ((hd1.block H (blk B1.out).2.2.2.2 (by omega)).trans B1.out)
        replace B2 := Hd.mk ((hd1.block (H + 1) (blk B2.out).2.2.2.2 (by omega)).trans B2.out)
        replace AD2 := Hd.mk (AD2.out.trans hd1)
        clear hd1
        have hcell := shA_s s k (by omega)
        obtain ⟨b1, b2, b3, b4, b5⟩ := blk B2.out
        have B3 := heap_setCell_same w3 (H + 1) k (shA s) 61 (.int .i64 z) B2.out
        rw [shA_upd s k z (by omega)] at B3
        have C1 : Hd ((w3.setCell ⟨H + 1, k, none⟩ (.int .i64 z)).heap[H]? = some (.cells (shA fun _ => 0) 61 (0, 0))) := ⟨(Below.heap_setCell _ _ _ _ (by dsimp only; omega)).trans B1.out⟩
        have C2 : Hd (Dr c w (w3.setCell ⟨H + 1, k, none⟩ (.int .i64 z))) := ⟨AD2.out.setCell HC.out (by rw [← HH.out]; dsimp only; omega) _⟩
        have C3 := Hd.mk B3
        have q1 : (k : Int) < 8 := by omega
        have l1 := run_ld61 (w3.setCell ⟨H + 1, k, none⟩ (.int .i64 z)) (H + 1) (updS s k z) (blk C3.out).1
        obtain ⟨d1, d2, -, -, -⟩ := blk B1.out
        have l2 := run_ld61 ((w3.setCell ⟨H + 1, k, none⟩ (.int .i64 z)).setRow H (shA (updS s k z))) H (updS s k z) (rowAt_setRow_same _ _ _ (blk C1.out).2.1)
        have AD2 := C2
        clear B1 B2 B3 C1 C2 C3
        go_wp2_with fail
        refine bodyPost_ret (v := .agg (shA (updS s k z))) (results_c61 rfl rfl l2) rfl ⟨_, rfl, ?_⟩
        exact AD2.out.setRow HC.out (by rw [HH.out]; exact Nat.le_refl _) _
      case neg =>
        have e1 : ((r : Int) == 11) = false := by simp; omega
        clear h11
        have l1 := run_ld61 w1 (H + 1) (s) (blk B2.out).1
        obtain ⟨b1, b2, -, -, -⟩ := blk B1.out
        have l2 := run_ld61 (w1.setRow H (shA (s))) H (s) (rowAt_setRow_same _ _ _ b2)
        go_wp2_with fail
        refine bodyPost_ret (v := .agg (shA (s))) (results_c61 rfl rfl l2) rfl ⟨_, rfl, ?_⟩
        exact AD2.out.setRow HC.out (by rw [HH.out]; exact Nat.le_refl _) _

def flatW (l : List Wk) : List Value := l.flatMap fun x => [.int .i64 x.1, .int .i64 x.2]
theorem flatW_snoc (l : List Wk) (x : Wk) : flatW (l ++ [x]) = flatW l ++ [.int .i64 x.1, .int .i64 x.2] := by simp [flatW]
theorem flatW_at (l : List Wk) (k : Nat) (x : Wk) (hk : l[k]? = some x) : (flatW l)[k * 2]? = some (.int .i64 x.1) ∧ (flatW l)[k * 2 + 1]? = some (.int .i64 x.2) := by
  induction l generalizing k with
  | nil => simp at hk
  | cons y l ih =>
    simp only [flatW, List.flatMap_cons]
    rcases k with _ | k
    · simp at hk; subst hk; simp
    · have := ih k (by simpa using hk)
      rw [List.getElem?_append_right (by simp; omega), List.getElem?_append_right (by simp; omega)]
      simp only [List.length_cons, List.length_nil]
      rw [show (k + 1) * 2 - (0 + 1 + 1) = k * 2 by omega, show (k + 1) * 2 + 1 - (0 + 1 + 1) = k * 2 + 1 by omega]
      exact this
/-- An owned row of works is a slice of works. -/
theorem own_wks {w : World} {base n cap : Nat} {a : Option Addr} {l : List Wk} (h : w.ownsRow base 70 2 (.slice a n cap) l.length (flatW l)) : WkS w a l := by
  rcases h.2 with ⟨_, h0⟩ | ⟨g, cap', cur, hv, hb, _, hc, _⟩
  · left; exact List.length_eq_zero_iff.1 h0
  · right
    simp only [Value.slice.injEq] at hv
    obtain ⟨rfl, -, -⟩ := hv
    refine ⟨g, rfl, (h.lt g rfl).2, fun k x hk => ?_⟩
    have h1 := h.cells (g := g) rfl (k * 2) _ (flatW_at l k x hk).1
    have h2 := h.cells (g := g) rfl (k * 2 + 1) _ (flatW_at l k x hk).2
    rw [Addr.add_lit, Nat.zero_add] at h1 h2
    exact ⟨h1, h2⟩
theorem own_len {w : World} {base : Nat} {v : Value} {l : List Wk} (h : w.ownsRow base 70 2 v l.length (flatW l)) : ∃ a cap, v = .slice a l.length cap := by
  rcases h.2 with ⟨rfl, h0⟩ | ⟨g, cap, cur, rfl, _⟩
  · exact ⟨none, 0, by rw [h0]⟩
  · exact ⟨_, _, rfl⟩
def SomeWks (c : Nat) (w : World) (e : Ending) (w' : World) : Prop := ∃ (v : Value) (l : List Wk), l.length ≤ 8 ∧ e = .returned v ∧ w'.ownsRow w.heap.size 70 2 v l.length (flatW l) ∧ Dr c w w'
theorem info70r : (Try.prog.info? 70).map (fun i => (i.zero, i.size, i.bytes)) = some (some (.agg #[.int .i64 0, .int .i64 0]), 2, 16) := by kernel_rfl

@[go_sem ↓ high] theorem bsl67 (n : Nat) (parts : Array (Nat × Value)) : Instr.buildSlice 67 n parts = bsl 67 n parts := bsl_eq _ _ _
@[go_sem] theorem run_bsl67 (w : World) (x y : Int) : (bsl 67 1 #[(0, .agg #[.int .i64 x, .int .i64 y])]).run Try.prog w = .ok (.slice (some ⟨w.heap.size, 0, none⟩) 1 1) (w.alloc (.cells #[.int .i64 x, .int .i64 y] 70)) := by
  rw [← bsl_eq]; kernel_rfl
@[go_sem] theorem run_bsl67' (w : World) (x y z u : Int) : (bsl 67 2 #[(0, .agg #[.int .i64 x, .int .i64 y]), (1, .agg #[.int .i64 z, .int .i64 u])]).run Try.prog w = .ok (.slice (some ⟨w.heap.size, 0, none⟩) 2 2) (w.alloc (.cells #[.int .i64 x, .int .i64 y, .int .i64 z, .int .i64 u] 70)) := by
  rw [← bsl_eq]; kernel_rfl

set_option maxHeartbeats 1000000 in
theorem offers37 (c : Nat) (w : World) (hC : Cds w c) : Calls Try.prog 37 #[.pointer (some ⟨c, 0, none⟩)] w (SomeWks c w) := by
  obtain ⟨i0, hi, hz0, hz1, hz2⟩ := info_parts info70r
  have HI := Hd.mk (And.intro hi (And.intro hz0 (And.intro hz1 hz2)))
  have HC := Hd.mk hC
  clear hi hz0 hz1 hz2 hC
  go_enter Try.func37, Try.ntmps37
  go_wp2_with fail
  refine (next_any c 9 _ HC.out (by omega) (by omega)).mono ?_
  rintro e w1 ⟨r, hr, rfl, hd1⟩
  have HD := Hd.mk hd1
  clear hd1
  go_wp2_with fail
  go_loopw [3, 4] (fun v t wr => ∃ (j : Nat) (l : List Wk), l.length + j ≤ 8 ∧ t = .int .i64 (j : Int) ∧ Hd (wr.ownsRow w.heap.size 70 2 v l.length (flatW l)) ∧ Hd (Dr c w wr)) (fun _ t _ => (intOf t).toNat)
  case atStart => exact ⟨r, [], by simp; omega, rfl, ⟨World.ownsRow_nil _ _ _ _⟩, HD⟩
  case round =>
    clear HD
    obtain ⟨j, l, hj, rfl, HO, HD⟩ := hrel
    by_cases hlt : 0 < j
    · have q1 : (j : Int) > 0 := by omega
      go_wp2_with fail
      refine (next_any c 10 _ (HD.out.cds HC.out) (by omega) (by omega)).mono ?_
      rintro e w2 ⟨x, hx, rfl, hd2⟩
      have HD2 := Hd.mk (HD.out.trans hd2)
      have HO2 := Hd.mk (own_dr HO.out hd2 HC.out.lt)
      clear hd2 HD HO
      go_wp2_with fail
      refine (next_any c 9 _ (HD2.out.cds HC.out) (by omega) (by omega)).mono ?_
      rintro e w3 ⟨y, hy, rfl, hd3⟩
      have HD3 := Hd.mk (HD2.out.trans hd3)
      have HO3 := Hd.mk (own_dr HO2.out hd3 HC.out.lt)
      have hsz := HD3.out.size
      clear hd3 HD2 HO2
      go_wp2_with (at_builtin; refine wpList_append_lies _ rfl _ _ _ rfl w.heap.size 70 i0 (.agg #[.int .i64 0, .int .i64 0]) 2 16 Try.underlying67 HI.out.1 HI.out.2.1 HI.out.2.2.1 HI.out.2.2.2 rfl (by decide) u3 l.length (flatW l) (by rfl) (HO3.out.alloc _) ⟨w3.heap.size, 0, none⟩ 1 1 [.int .i64 (x : Int), .int .i64 (y : Int)] (by rfl) (by rfl) (World.news_of_block (heap_alloc_new w3 _)) (by simp [Value.oneCell']) (by decide) (by unfold maxLen; omega) (by omega) (Nat.le_trans hsz (by simp)) _ rfl ?_; intro g cap' w8 hown hgrow hat hlt2)
      have HD8 := Hd.mk ((HD3.out.trans (Dr.alloc c w3 _)).grown hgrow HC.out (fun k hk => (HO3.out.lt k hk).1))
      have HO8 : Hd (w8.ownsRow w.heap.size 70 2 (.slice (some ⟨g, 0, none⟩) (l.length + 1) cap') (l ++ [((x : Int), (y : Int))]).length (flatW (l ++ [((x : Int), (y : Int))]))) := ⟨by rw [flatW_snoc, List.length_append]; exact hown⟩
      clear hown hgrow hat hlt2 HO3
      go_roundw
      case rel => exact ⟨j - 1, l ++ [((x : Int), (y : Int))], by simp; omega, by congr 1; omega, HO8, HD8⟩
      case measure => simp [intOf]; omega
    · obtain rfl : j = 0 := by omega
      go_wp2_with fail
      go_ret
      exact ⟨u3, l, by omega, rfl, HO.out, HD.out⟩

/-! ### the sanity check -/
def s0 : Nat → Int := fun i => if i = 2 then 1 else 0
@[go_sem] theorem run_bld61 (w : World) : (bld 61 #[(0, .int .i64 0), (1, .int .i64 0), (2, .int .i64 1)]).run Try.prog w = .ok (.agg (shA s0)) w := by rw [← bld_eq]; unfold shA; kernel_rfl
theorem next_s0 : nextF ⟨s0, 1, 0⟩ [(1, 0), (3, 5)] = (⟨s0, 3, 1⟩, (3, 5), true, 0) := by rfl
theorem new_s0 : newF s0 = (⟨s0, 1, 0⟩, 0) := by rfl
theorem wkIn_of {w : World} {g : Nat} {l : List Wk} {t : TypeId} (h : w.heap[g]? = some (.cells (flatW l).toArray t (0, 0))) : WkIn w g l := by
  obtain ⟨h1, h2, h3, h4, h5⟩ := blk h
  refine ⟨h5, fun k x hk => ?_⟩
  obtain ⟨a, b⟩ := flatW_at l k x hk
  rw [h3, h3]
  exact ⟨by simpa using a, by simpa using b⟩

set_option maxHeartbeats 1000000 in
theorem awake34 (w : World) : Calls Try.prog 34 #[] w fun e w' => e = .returned (.bool true) ∧ Below w.heap.size w w' := by
  have HN := Hd.mk new_s0
  have HX := Hd.mk next_s0
  go_enter Try.func34, Try.ntmps34
  go_wp2_with fail
  refine (new36 s0 _).mono ?_
  rintro e w1 ⟨rfl, hb⟩
  rw [HN.out]
  dsimp only
  have HS := Hd.mk (((Pre.nil w).step hb).alloc (quA ⟨s0, 1, 0⟩) 64 w1.heap.size rfl)
  clear hb
  go_wp2_with fail
  have S := HS.out.alloc #[.int .i64 1, .int .i64 0, .int .i64 3, .int .i64 5] 70 (w1.heap.size + 1) (by simp)
  have hwk : WkS ((w1.alloc (.cells (quA ⟨s0, 1, 0⟩) 64)).alloc (.cells #[.int .i64 1, .int .i64 0, .int .i64 3, .int .i64 5] 70)) (some ⟨w1.heap.size + 1, 0, none⟩) [(1, 0), (3, 5)] := .inr ⟨_, rfl, wkIn_of (S.mem _ (List.mem_cons_self ..)).2⟩
  refine (next38 _ 2 [(1, 0), (3, 5)] ⟨s0, 1, 0⟩ _ (by simp) hwk).mono ?_
  rintro e w2 ⟨rfl, hb⟩
  rw [HX.out]
  dsimp only
  have S2 := (S.step hb).alloc (quA ⟨s0, 3, 1⟩) 64 w2.heap.size rfl
  replace S2 := S2.alloc #[.int .i64 3, .int .i64 5] 70 (w2.heap.size + 1) (by simp)
  obtain ⟨b1, b2⟩ := S2.cellsAt (w2.heap.size + 1) #[.int .i64 3, .int .i64 5] 70 (by simp)
  have HS2 := Hd.mk S2
  clear S S2 hwk hb HS
  go_wp2_with fail
  go_ret
  exact ⟨rfl, HS2.out.below⟩
end Go.Proofs.Ytiebdcejlkeoiaa
