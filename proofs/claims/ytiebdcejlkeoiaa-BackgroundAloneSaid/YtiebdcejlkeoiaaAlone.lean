/- The walk of the law BackgroundAlone: it returns true and leaves old memory as it was. -/
import Derived.Test.YtiebdcejlkeoiaaBgDraw
namespace Go.Proofs.Ytiebdcejlkeoiaa
open Go.RowKit
set_option linter.unusedSimpArgs false
set_option linter.unusedVariables false

theorem hasK_pair (k n m j : Int) : hasK [(k, n), (k, m)] j = (k == j) := by simp [hasK]
theorem someQ_pair (s : Nat → Int) (k : Nat) (n m : Int) (h1 : 1 ≤ k) (h8 : k ≤ 8) : someQ s [((k : Int), n), ((k : Int), m)] = decide (0 < s (k - 1)) := by
  rw [Bool.eq_iff_iff, decide_eq_true_eq]
  simp only [someQ, List.any_eq_true, List.mem_range, off, hasK_pair, Bool.and_eq_true, decide_eq_true_eq, beq_iff_eq]
  constructor
  · rintro ⟨i, hi, e, h⟩
    rw [show k - 1 = i by omega]; exact h
  · intro h
    exact ⟨k - 1, by omega, by omega, h⟩
/-- What a choice of work of one kind is. -/
structure AloneR (s : Nat → Int) (k : Nat) (n : Int) (r : Qu × Wk × Bool × Int) : Prop where
  e : r.2.2.2 = 0
  ok : r.2.2.1 = decide (0 < s (k - 1))
  w : r.2.2.1 = true → r.2.1.2 = n
  v : vq r.1 = true
  s : r.1.s = s
theorem alone_next {q : Qu} (hv : vq q = true) (k : Nat) (n m : Int) (h1 : 1 ≤ k) (h8 : k ≤ 8) : AloneR q.s k n (nextF q [((k : Int), n), ((k : Int), m)]) := by
  obtain ⟨a, b, c, d⟩ := next_vq (l := [((k : Int), n), ((k : Int), m)]) hv
  refine ⟨c, by rw [d, someQ_pair _ _ _ _ h1 h8], fun ht => ?_, a, b⟩
  rw [d] at ht
  rw [next_some hv ht]
  have hr := pick_rdy 9 (reach_any ((vq_iff q).1 hv) ht)
  rw [rdy_iff, hasK_pair] at hr
  have he : (k : Int) = (pick 9 q [((k : Int), n), ((k : Int), m)]).kind := by simpa using hr.1
  dsimp only
  rw [← he]
  simp [fstK]

set_option maxHeartbeats 4000000 in
theorem alone_walk (a : Option Addr) (n cap : Nat) (m : Nat) (w : World) (h : IsBytes w a n cap) (hm : m < 256) : Calls Try.prog 8 #[.slice a n cap, .int .u8 (m : Int)] w fun e w' => e = .returned (.bool true) ∧ Below w.heap.size w w' := by
  go_enter Try.func8, Try.ntmps8
  go_wp2_with fail
  refine (awake34 _).mono ?_
  rintro e w1 ⟨rfl, hb1⟩
  have Q0 : Pre w.heap.size w [] w1 := (Pre.nil w).step hb1
  have H := Hd.mk (h.below' Q0.below)
  have HQ := Hd.mk Q0
  clear h hb1 Q0
  go_wp2_with fail
  refine (new_any a n cap 200 _ (by omega) (by omega) H.out).mono ?_
  rintro e w2 ⟨c, hc, hC, rfl, hb2⟩
  have S := HQ.out.sk hb2 hC hc
  clear H HQ hC hb2 hc
  have HS := Hd.mk S
  clear S
  go_wp2_with fail
  obtain ⟨kk, hk1, hk8, hke⟩ : ∃ kk : Nat, 1 ≤ kk ∧ kk ≤ 8 ∧ 1 + (m : Int) % 8 = (kk : Int) := ⟨1 + m % 8, by omega, by omega, by omega⟩
  rw [hke]
  clear hke
  refine (shares35 c _ HS.out.cds).mono ?_
  rintro e w3 ⟨s, rfl, hd⟩
  have S := (HS.out.dr hd).alloc (shA s) 61 w3.heap.size rfl
  have l1 := run_ld61 _ w3.heap.size s (S.at w3.heap.size (shA s) 61 (by simp)).1
  clear HS hd
  have HS := Hd.mk S
  clear S
  go_wp2_with fail
  refine (new36 s _).mono ?_
  rintro e w4 ⟨rfl, hb⟩
  have HG3 : Hd (w3.heap.size < w4.heap.size) := ⟨(HS.out.step hb).lt (x := (w3.heap.size, shA s, 61)) (by simp)⟩
  have HCW := Hd.mk (HS.out.step hb).cds.lt
  have S := (HS.out.step hb).alloc (quA (newF s).1) 64 w4.heap.size rfl
  clear l1 hb HS
  obtain ⟨g3, hg3⟩ : ∃ g, g = w3.heap.size := ⟨_, rfl⟩
  rw [← hg3] at S HG3 ⊢
  have hcg := S.cds.lt
  have HS := Hd.mk S
  clear S hg3
  cases hs : shB s with
  | false =>
    rw [newF_bad hs] at HS ⊢
    clear hs
    dsimp only at HS ⊢
    go_wp2_with fail
    go_ret
    exact ⟨rfl, HS.out.below⟩
  | true =>
    rw [newF_ok hs] at HS ⊢
    have hcw : c < w4.heap.size := HCW.out
    have HV := Hd.mk (vq_new hs)
    clear hs
    dsimp only at HS ⊢
    go_wp2_with fail
    obtain ⟨g4, hg4⟩ : ∃ g, g = w4.heap.size := ⟨_, rfl⟩
    rw [← hg4] at HS hcw ⊢
    have hg34 : g3 < g4 := by rw [hg4]; exact HG3.out
    clear hg4 hcg
    go_loopw [10] (fun v wr => ∃ (j : Nat) (q : Qu), j ≤ 12 ∧ v = .int .i64 (j : Int) ∧ Hd (vq q = true ∧ q.s = s) ∧ Hd (Sk c w.heap.size w [(g4, quA q, 64), (g3, shA s, 61)] wr)) (fun v _ => 12 - (intOf v).toNat)
    case atStart => exact ⟨0, _, by omega, rfl, ⟨HV.out, rfl⟩, HS⟩
    case round =>
      clear HS
      obtain ⟨j, q, hj, rfl, HQ, HS⟩ := hrel
      by_cases hlt : j < 12
      · have q1 : (j : Int) < 12 := by omega
        have S := HS.out.alloc #[.int .i64 (kk : Int), .int .i64 (j : Int), .int .i64 (kk : Int), .int .i64 ((j : Int) + 1)] 70 wr.heap.size rfl
        have hwk : WkS (wr.alloc (.cells #[.int .i64 (kk : Int), .int .i64 (j : Int), .int .i64 (kk : Int), .int .i64 ((j : Int) + 1)] 70)) (some ⟨wr.heap.size, 0, none⟩) [((kk : Int), (j : Int)), ((kk : Int), (j : Int) + 1)] := .inr ⟨_, rfl, wkIn_of (S.mem _ (List.mem_cons_self ..)).2⟩
        have HWK := Hd.mk hwk
        obtain ⟨b1, b2, b3, b4⟩ := S.at g4 (quA q) 64 (by simp)
        have HS2 := Hd.mk S
        clear S hwk
        go_wp2_with fail
        refine (next38 _ 2 [((kk : Int), (j : Int)), ((kk : Int), (j : Int) + 1)] q _ (by simp) HWK.out).mono ?_
        rintro e w5 ⟨rfl, hb⟩
        have HA := Hd.mk (alone_next HQ.out.1 kk (j : Int) ((j : Int) + 1) hk1 hk8)
        generalize nextF q [((kk : Int), (j : Int)), ((kk : Int), (j : Int) + 1)] = r at HA ⊢
        obtain ⟨x, ⟨y, z⟩, ok, e⟩ := r
        obtain rfl : e = 0 := HA.out.e
        dsimp only
        have S := ((HS2.out.step hb).alloc (quA x) 64 w5.heap.size rfl).alloc #[.int .i64 y, .int .i64 z] 70 (w5.heap.size + 1) (by simp)
        clear b1 b2 b3 b4 hb HWK HS HS2
        obtain ⟨b1, b2, b3, b4⟩ := S.at w5.heap.size (quA x) 64 (by simp)
        obtain ⟨c1, c2⟩ := S.cellsAt (w5.heap.size + 1) #[.int .i64 y, .int .i64 z] 70 (by simp)
        obtain ⟨d1, d2⟩ := S.cellsAt g3 (shA s) 61 (by simp)
        have hcell := shA_s s (kk - 1) (by omega)
        have HS3 := Hd.mk S
        have hq2 : (kk : Int) - 1 < 8 := by omega
        have hq3 : 0 ≤ (kk : Int) - 1 := by omega
        have HVX := Hd.mk HA.out.v
        have HSX : Hd (x.s = s) := ⟨HA.out.s.trans HQ.out.2⟩
        clear S
        cases ok with
        | true =>
          obtain rfl : z = (j : Int) := HA.out.w rfl
          have ho : decide (0 < s (kk - 1)) = true := by have := HA.out.ok; rw [HQ.out.2] at this; exact this.symm
          have HE : Hd (0 < s (kk - 1)) := ⟨by simpa using ho⟩
          go_wp2_with fail
          refine (valid39 x _).mono ?_
          rintro e w6 ⟨rfl, hb⟩
          rw [HVX.out]
          have HS4 := Hd.mk (HS3.out.step hb)
          clear b1 b2 b3 b4 c1 c2 d1 d2 hb HS3
          obtain ⟨b1, b2, b3, b4⟩ := HS4.out.at w5.heap.size (quA x) 64 (by simp)
          obtain ⟨c1, c2, c3, c4⟩ := HS4.out.at g4 (quA q) 64 (by simp)
          have S := HS4.out.sub (l' := [(g4, quA q, 64), (g3, shA s, 61)]) (fun z hz => by simp at hz ⊢; rcases hz with rfl | rfl <;> simp)
          have HS5 := Hd.mk (S.setRow g4 (quA q) (quA x) 64 (by simp) hcw (l' := [(g3, shA s, 61)]) (fun z hz => ⟨List.mem_cons_of_mem _ hz, by simp at hz; subst hz; have := hg34; dsimp only; omega⟩))
          clear S HS4
          go_wp2_with fail
          go_roundw
          case rel => exact ⟨j + 1, x, by omega, by go_num, ⟨HVX.out, HSX.out⟩, HS5⟩
          case measure => simp [intOf]; omega
        | false =>
          have ho : decide (0 < s (kk - 1)) = false := by have := HA.out.ok; rw [HQ.out.2] at this; exact this.symm
          have HE : Hd (¬ 0 < s (kk - 1)) := ⟨by simpa using ho⟩
          go_wp2_with fail
          refine (valid39 x _).mono ?_
          rintro e w6 ⟨rfl, hb⟩
          rw [HVX.out]
          have HS4 := Hd.mk (HS3.out.step hb)
          clear b1 b2 b3 b4 c1 c2 d1 d2 hb HS3
          obtain ⟨b1, b2, b3, b4⟩ := HS4.out.at w5.heap.size (quA x) 64 (by simp)
          obtain ⟨c1, c2, c3, c4⟩ := HS4.out.at g4 (quA q) 64 (by simp)
          have S := HS4.out.sub (l' := [(g4, quA q, 64), (g3, shA s, 61)]) (fun z hz => by simp at hz ⊢; rcases hz with rfl | rfl <;> simp)
          have HS5 := Hd.mk (S.setRow g4 (quA q) (quA x) 64 (by simp) hcw (l' := [(g3, shA s, 61)]) (fun z hz => ⟨List.mem_cons_of_mem _ hz, by simp at hz; subst hz; have := hg34; dsimp only; omega⟩))
          clear S HS4
          go_wp2_with fail
          go_roundw
          case rel => exact ⟨j + 1, x, by omega, by go_num, ⟨HVX.out, HSX.out⟩, HS5⟩
          case measure => simp [intOf]; omega
      · go_wp2_with fail
        go_ret
        exact ⟨rfl, HS.out.below⟩
end Go.Proofs.Ytiebdcejlkeoiaa
