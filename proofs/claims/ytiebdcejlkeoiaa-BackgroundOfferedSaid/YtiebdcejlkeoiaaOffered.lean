/- The walk of the law BackgroundOffered: it returns true and leaves old memory as it was. -/
import Derived.Test.YtiebdcejlkeoiaaBgDraw
namespace Go.Proofs.Ytiebdcejlkeoiaa
open Go.RowKit
set_option linter.unusedSimpArgs false
set_option linter.unusedVariables false

theorem below_cell {B : Nat} {u v : World} (h : Below B u v) (g i : Nat) (x : Value) (hg : B ≤ g) : Below B u (v.setCell ⟨g, i, none⟩ x) := Below.setCell h hg x
@[go_sem] theorem frozen_drewN (w : World) (m : Nat) (a : Addr) : (w.drewN m).frozen? a = w.frozen? a := rfl
@[go_sem] theorem cell_drewN (w : World) (m : Nat) (a : Addr) : (w.drewN m).cell? a = w.cell? a := rfl
def elig (s : Nat → Int) (x : Wk) : Bool := decide (1 ≤ x.1) && decide (x.1 ≤ 8) && decide (0 < s (x.1 - 1).toNat)
theorem elig_some (s : Nat → Int) (l : List Wk) : l.any (elig s) = someQ s l := by
  rw [Bool.eq_iff_iff]
  simp only [someQ, List.any_eq_true, List.mem_range, off, hasK, elig, Bool.and_eq_true, decide_eq_true_eq, beq_iff_eq]
  constructor
  · rintro ⟨x, hx, ⟨h1, h2⟩, h3⟩
    exact ⟨(x.1 - 1).toNat, by omega, ⟨x, hx, by omega⟩, h3⟩
  · rintro ⟨i, hi, ⟨x, hx, he⟩, h⟩
    exact ⟨x, hx, ⟨by omega, by omega⟩, by rw [show (x.1 - 1).toNat = i by omega]; exact h⟩
theorem fstK_cons (x : Wk) (l : List Wk) (k : Int) : fstK (x :: l) k = if x.1 == k then x else fstK l k := by
  unfold fstK
  rw [List.find?_cons]
  cases h : (x.1 == k) <;> simp
structure OffR (s : Nat → Int) (q : Qu) (l : List Wk) (r : Qu × Wk × Bool × Int) : Prop where
  e : r.2.2.2 = 0
  ok : r.2.2.1 = someQ s l
  no : r.2.2.1 = false → r.1 = q ∧ r.2.1 = (0, 0)
  yes : r.2.2.1 = true → fstK l r.2.1.1 = r.2.1
  v : vq r.1 = true
  s : r.1.s = s
theorem off_next {q : Qu} (hv : vq q = true) (l : List Wk) : OffR q.s q l (nextF q l) := by
  obtain ⟨a, b, c, d⟩ := next_vq (l := l) hv
  refine ⟨c, d, fun hf => ?_, fun ht => ?_, a, b⟩
  · rw [d] at hf
    rw [next_none hv hf]; exact ⟨rfl, rfl⟩
  · rw [d] at ht
    rw [next_some hv ht]
    have hr := pick_rdy 9 (reach_any ((vq_iff q).1 hv) ht)
    rw [rdy_iff] at hr
    have := (fstK_kind hr.1).1
    dsimp only
    rw [this]

set_option maxHeartbeats 4000000 in
set_option maxRecDepth 100000 in
theorem offered_walk (a : Option Addr) (n cap : Nat) (w : World) (h : IsBytes w a n cap) : Calls Try.prog 7 #[.slice a n cap] w fun e w' => e = .returned (.bool true) ∧ Below w.heap.size w w' := by
  go_enter Try.func7, Try.ntmps7
  go_wp2_with fail
  refine (awake34 _).mono ?_
  rintro e w1 ⟨rfl, hb1⟩
  have Q0 : Pre w.heap.size w [] w1 := (Pre.nil w).step hb1
  have H := Hd.mk (h.below' Q0.below)
  have HQ := Hd.mk Q0
  clear h hb1 Q0
  go_wp2_with fail
  refine (new_any a n cap 400 _ (by omega) (by omega) H.out).mono ?_
  rintro e w2 ⟨c, hc, hC, rfl, hb2⟩
  have S := HQ.out.sk hb2 hC hc
  clear H HQ hC hb2 hc
  have HS := Hd.mk S
  clear S
  go_wp2_with fail
  refine (shares35 c _ HS.out.cds).mono ?_
  rintro e w3 ⟨s, rfl, hd⟩
  have S := (HS.out.dr hd).alloc (shA s) 61 w3.heap.size rfl
  have l1 := run_ld61 _ w3.heap.size s (S.at w3.heap.size (shA s) 61 (by simp)).1
  clear HS hd
  have HS := Hd.mk S
  clear S
  go_wp2_with fail
  refine (new36 s _).mono ?_
  rintro e w4 ⟨rfl, hb⟩
  have HG3 : Hd (w3.heap.size < w4.heap.size) := ⟨(HS.out.step hb).lt (x := (w3.heap.size, shA s, 61)) (by simp)⟩
  have HCW := Hd.mk (HS.out.step hb).cds.lt
  have S := (HS.out.step hb).alloc (quA (newF s).1) 64 w4.heap.size rfl
  clear l1 hb HS
  obtain ⟨g3, hg3⟩ : ∃ g, g = w3.heap.size := ⟨_, rfl⟩
  rw [← hg3] at S HG3 ⊢
  have hcg := S.cds.lt
  have HS := Hd.mk S
  clear S hg3
  cases hs : shB s with
  | false =>
    rw [newF_bad hs] at HS ⊢
    clear hs
    dsimp only at HS ⊢
    go_wp2_with fail
    go_ret
    exact ⟨rfl, HS.out.below⟩
  | true =>
    rw [newF_ok hs] at HS ⊢
    have hcw : c < w4.heap.size := HCW.out
    have HV := Hd.mk (vq_new hs)
    clear hs
    dsimp only at HS ⊢
    go_wp2_with fail
    obtain ⟨g4, hg4⟩ : ∃ g, g = w4.heap.size := ⟨_, rfl⟩
    rw [← hg4] at HS hcw ⊢
    have hg34 : g3 < g4 := by rw [hg4]; exact HG3.out
    clear hg4 hcg
    go_loopw [7] (fun v wr => ∃ (j : Nat) (q : Qu), j ≤ 20 ∧ v = .int .i64 (j : Int) ∧ Hd (vq q = true ∧ q.s = s) ∧ Hd (Sk c w.heap.size w [(g4, quA q, 64), (g3, shA s, 61)] wr)) (fun v _ => 20 - (intOf v).toNat)
    case atStart => exact ⟨0, _, by omega, rfl, ⟨HV.out, rfl⟩, HS⟩
    case round =>
      clear HS
      obtain ⟨j, q, hj, rfl, HQ, HS⟩ := hrel
      obtain ⟨wq, rfl⟩ : ∃ W : World, W = wr := ⟨_, rfl⟩
      by_cases hlt : j < 20
      · have q1 : (j : Int) < 20 := by omega
        go_wp2_with fail
        refine (offers37 c _ HS.out.cds).mono ?_
        rintro e w0 ⟨v, l, hl, rfl, hown, hd⟩
        obtain ⟨al, cl, rfl⟩ := own_len hown
        have HWK := Hd.mk (own_wks hown)
        have HS2 := Hd.mk (HS.out.dr hd)
        clear hown hd HS
        obtain ⟨b1, b2, b3, b4⟩ := HS2.out.at g4 (quA q) 64 (by simp)
        go_wp2_with fail
        refine (next38 al cl l q _ (by omega) HWK.out).mono ?_
        rintro e w5 ⟨rfl, hb⟩
        have HA := Hd.mk (off_next HQ.out.1 l)
        generalize nextF q l = r at HA ⊢
        obtain ⟨x, ⟨y, z⟩, ok, e⟩ := r
        obtain rfl : e = 0 := HA.out.e
        dsimp only
        have hsz := hb.size
        have HB := Hd.mk (((hb.alloc hsz (.cells (quA x) 64)).alloc (Nat.le_trans hsz (by simp)) (.cells #[.int .i64 y, .int .i64 z] 70)).alloc (Nat.le_trans hsz (by simp; omega)) (.cells #[.int .i64 0, .int .i64 0] 70))
        have S := (((HS2.out.step hb).alloc (quA x) 64 w5.heap.size rfl).alloc #[.int .i64 y, .int .i64 z] 70 (w5.heap.size + 1) (by simp)).alloc #[.int .i64 0, .int .i64 0] 70 (w5.heap.size + 1 + 1) (by simp)
        obtain ⟨b14, hb14⟩ : ∃ b, b = w5.heap.size + 1 + 1 := ⟨_, rfl⟩
        rw [← hb14] at S
        have HS3 := Hd.mk S
        have HG4 : Hd (g4 < w5.heap.size) := ⟨(HS2.out.step hb).lt (x := (g4, quA q, 64)) (by simp)⟩
        have HC5 : Hd (c < w5.heap.size) := ⟨(HS2.out.step hb).cds.lt⟩
        have H0B : Hd (w0.heap.size ≤ b14) := ⟨by rw [hb14]; omega⟩
        clear S hb b1 b2 b3 b4 HS2 hsz
        go_wp2_with fail
        rw [← hb14]
        have HB14 := Hd.mk hb14
        clear hb14
        have hlen : (l.length : Int) ≤ 8 := by omega
        go_loopw [13, 15] (fun sm iv wr => ∃ (k : Nat) (f : Wk), k ≤ l.length ∧ iv = .int .i64 ((k : Int) - 1) ∧ sm = .bool ((l.drop k).any (elig s)) ∧ Hd (f = fstK (l.drop k) y) ∧ Hd (Below w0.heap.size w0 wr) ∧ Hd (Sk c w.heap.size w [(b14, #[.int .i64 f.1, .int .i64 f.2], 70), (w5.heap.size + 1, #[.int .i64 y, .int .i64 z], 70), (w5.heap.size, quA x, 64), (g4, quA q, 64), (g3, shA s, 61)] wr)) (fun _ iv _ => (intOf iv + 1).toNat)
        case atStart => exact ⟨l.length, (0, 0), Nat.le_refl _, rfl, by rw [List.drop_length]; rfl, ⟨by rw [List.drop_length]; rfl⟩, HB, HS3⟩
        case round =>
          clear HB HS3
          obtain ⟨k, f, hk, rfl, rfl, HF, HB, HS3⟩ := hrel
          obtain ⟨wq2, rfl⟩ : ∃ W : World, W = wr := ⟨_, rfl⟩
          by_cases hk0 : 0 < k
          · obtain ⟨k, rfl⟩ : ∃ k', k = k' + 1 := ⟨k - 1, by omega⟩
            obtain ⟨ga, rfl, hg⟩ := (HWK.out.below HB.out).in (i := k) (by omega)
            obtain ⟨xk, hxk⟩ : ∃ xk, l[k]? = some xk := ⟨_, List.getElem?_eq_getElem (by omega)⟩
            obtain ⟨hx1, hx2⟩ := hg.2 k xk hxk
            have hgl := hg.1
            have HDR : Hd (l.drop k = xk :: l.drop (k + 1)) := ⟨by rw [List.drop_eq_getElem_cons (by omega)]; congr 1; rw [List.getElem?_eq_getElem (by omega)] at hxk; exact Option.some.inj hxk⟩
            have ek : ((k + 1 : Nat) : Int) - 1 = (k : Int) := by omega
            rw [ek]
            have q2 : (k : Int) < (l.length : Int) := by omega
            have q3 : (0 : Int) ≤ k := by omega
            clear hg hxk ek
            obtain ⟨d1, d2⟩ := HS3.out.cellsAt g3 (shA s) 61 (by simp)
            obtain ⟨m1, m2⟩ := HS3.out.cellsAt (w5.heap.size + 1) #[.int .i64 y, .int .i64 z] 70 (by simp)
            cases hany : (l.drop (k + 1)).any (elig s) with
            | true =>
              have HAN : Hd ((elig s xk || (l.drop (k + 1)).any (elig s)) = true) := ⟨by rw [hany, Bool.or_true]⟩
              clear hany
              by_cases he : xk.1 = y
              case pos =>
                have e1 : (xk.1 == y) = true := by simp [he]
                have HF2 : Hd (xk = fstK (l.drop k) y) := ⟨by rw [HDR.out, fstK_cons, e1]; rfl⟩
                clear he
                go_wp2_with fail
                go_quiet (fail)
                have HS4 := Hd.mk (HS3.out.dr (Dr.drewN c _ nq))
                have HB4 := Hd.mk (below_drewN HB.out nq)
                obtain ⟨p1, p2⟩ := HS3.out.cellsAt b14 #[.int .i64 f.1, .int .i64 f.2] 70 (by simp)
                have S5 := HS4.out.setCell b14 #[.int .i64 f.1, .int .i64 f.2] 70 (by simp) (by have := HC5.out; have := HB14.out; omega) 0 (.int .i64 xk.1) (l' := [(w5.heap.size + 1, #[.int .i64 y, .int .i64 z], 70), (w5.heap.size, quA x, 64), (g4, quA q, 64), (g3, shA s, 61)]) (fun z hz => ⟨List.mem_cons_of_mem _ hz, by have := HG4.out; have := HB14.out; simp at hz; rcases hz with rfl | rfl | rfl | rfl <;> dsimp only <;> omega⟩)
                have S6 := S5.setCell b14 _ 70 (List.mem_cons_self ..) (by have := HC5.out; have := HB14.out; omega) 1 (.int .i64 xk.2) (l' := [(w5.heap.size + 1, #[.int .i64 y, .int .i64 z], 70), (w5.heap.size, quA x, 64), (g4, quA q, 64), (g3, shA s, 61)]) (fun z hz => ⟨List.mem_cons_of_mem _ hz, by have := HG4.out; have := HB14.out; simp at hz; rcases hz with rfl | rfl | rfl | rfl <;> dsimp only <;> omega⟩)
                have HS6 := Hd.mk S6
                have HB6 := Hd.mk (below_cell (below_cell HB4.out b14 0 (.int .i64 xk.1) H0B.out) b14 1 (.int .i64 xk.2) H0B.out)
                clear S5 S6 HS4 HB4 HS3 HB
                go_wp2_with fail
                go_roundw
                case rel => exact ⟨k, xk, by omega, rfl, by rw [HDR.out, List.any_cons, HAN.out], HF2, HB6, HS6⟩
                case measure => first | (simp [intOf]; done) | (simp [intOf]; omega)
              case neg =>
                have e1 : (xk.1 == y) = false := by simpa using he
                have HF2 : Hd (f = fstK (l.drop k) y) := ⟨by rw [HDR.out, fstK_cons, e1]; exact HF.out⟩
                clear he
                go_wp2_with fail
                go_quiet (fail)
                have HS6 := Hd.mk (HS3.out.dr (Dr.drewN c _ nq))
                have HB6 := Hd.mk (below_drewN HB.out nq)
                go_wp2_with fail
                go_roundw
                case rel => exact ⟨k, f, by omega, rfl, by rw [HDR.out, List.any_cons, HAN.out], HF2, HB6, HS6⟩
                case measure => first | (simp [intOf]; done) | (simp [intOf]; omega)
            | false =>
              by_cases h1 : 1 ≤ xk.1
              case neg =>
                have d3 : decide (1 ≤ xk.1) = false := by simp; omega
                have HAN : Hd ((elig s xk || (l.drop (k + 1)).any (elig s)) = false) := ⟨by rw [hany, Bool.or_false]; simp [elig, d3]⟩
                clear h1 hany
                by_cases he : xk.1 = y
                case pos =>
                  have e1 : (xk.1 == y) = true := by simp [he]
                  have HF2 : Hd (xk = fstK (l.drop k) y) := ⟨by rw [HDR.out, fstK_cons, e1]; rfl⟩
                  clear he
                  go_wp2_with fail
                  go_quiet (fail)
                  have HS4 := Hd.mk (HS3.out.dr (Dr.drewN c _ nq))
                  have HB4 := Hd.mk (below_drewN HB.out nq)
                  obtain ⟨p1, p2⟩ := HS3.out.cellsAt b14 #[.int .i64 f.1, .int .i64 f.2] 70 (by simp)
                  have S5 := HS4.out.setCell b14 #[.int .i64 f.1, .int .i64 f.2] 70 (by simp) (by have := HC5.out; have := HB14.out; omega) 0 (.int .i64 xk.1) (l' := [(w5.heap.size + 1, #[.int .i64 y, .int .i64 z], 70), (w5.heap.size, quA x, 64), (g4, quA q, 64), (g3, shA s, 61)]) (fun z hz => ⟨List.mem_cons_of_mem _ hz, by have := HG4.out; have := HB14.out; simp at hz; rcases hz with rfl | rfl | rfl | rfl <;> dsimp only <;> omega⟩)
                  have S6 := S5.setCell b14 _ 70 (List.mem_cons_self ..) (by have := HC5.out; have := HB14.out; omega) 1 (.int .i64 xk.2) (l' := [(w5.heap.size + 1, #[.int .i64 y, .int .i64 z], 70), (w5.heap.size, quA x, 64), (g4, quA q, 64), (g3, shA s, 61)]) (fun z hz => ⟨List.mem_cons_of_mem _ hz, by have := HG4.out; have := HB14.out; simp at hz; rcases hz with rfl | rfl | rfl | rfl <;> dsimp only <;> omega⟩)
                  have HS6 := Hd.mk S6
                  have HB6 := Hd.mk (below_cell (below_cell HB4.out b14 0 (.int .i64 xk.1) H0B.out) b14 1 (.int .i64 xk.2) H0B.out)
                  clear S5 S6 HS4 HB4 HS3 HB
                  go_wp2_with fail
                  go_roundw
                  case rel => exact ⟨k, xk, by omega, rfl, by rw [HDR.out, List.any_cons, HAN.out], HF2, HB6, HS6⟩
                  case measure => first | (simp [intOf]; done) | (simp [intOf]; omega)
                case neg =>
                  have e1 : (xk.1 == y) = false := by simpa using he
                  have HF2 : Hd (f = fstK (l.drop k) y) := ⟨by rw [HDR.out, fstK_cons, e1]; exact HF.out⟩
                  clear he
                  go_wp2_with fail
                  go_quiet (fail)
                  have HS6 := Hd.mk (HS3.out.dr (Dr.drewN c _ nq))
                  have HB6 := Hd.mk (below_drewN HB.out nq)
                  go_wp2_with fail
                  go_roundw
                  case rel => exact ⟨k, f, by omega, rfl, by rw [HDR.out, List.any_cons, HAN.out], HF2, HB6, HS6⟩
                  case measure => first | (simp [intOf]; done) | (simp [intOf]; omega)
              case pos =>
                by_cases h8 : xk.1 ≤ 8
                case neg =>
                  have d3 : decide (1 ≤ xk.1) = true := by simp; omega
                  have d4 : decide (xk.1 ≤ 8) = false := by simp; omega
                  have HAN : Hd ((elig s xk || (l.drop (k + 1)).any (elig s)) = false) := ⟨by rw [hany, Bool.or_false]; simp [elig, d4]⟩
                  clear h1 h8 hany
                  by_cases he : xk.1 = y
                  case pos =>
                    have e1 : (xk.1 == y) = true := by simp [he]
                    have HF2 : Hd (xk = fstK (l.drop k) y) := ⟨by rw [HDR.out, fstK_cons, e1]; rfl⟩
                    clear he
                    go_wp2_with fail
                    go_quiet (fail)
                    have HS4 := Hd.mk (HS3.out.dr (Dr.drewN c _ nq))
                    have HB4 := Hd.mk (below_drewN HB.out nq)
                    obtain ⟨p1, p2⟩ := HS3.out.cellsAt b14 #[.int .i64 f.1, .int .i64 f.2] 70 (by simp)
                    have S5 := HS4.out.setCell b14 #[.int .i64 f.1, .int .i64 f.2] 70 (by simp) (by have := HC5.out; have := HB14.out; omega) 0 (.int .i64 xk.1) (l' := [(w5.heap.size + 1, #[.int .i64 y, .int .i64 z], 70), (w5.heap.size, quA x, 64), (g4, quA q, 64), (g3, shA s, 61)]) (fun z hz => ⟨List.mem_cons_of_mem _ hz, by have := HG4.out; have := HB14.out; simp at hz; rcases hz with rfl | rfl | rfl | rfl <;> dsimp only <;> omega⟩)
                    have S6 := S5.setCell b14 _ 70 (List.mem_cons_self ..) (by have := HC5.out; have := HB14.out; omega) 1 (.int .i64 xk.2) (l' := [(w5.heap.size + 1, #[.int .i64 y, .int .i64 z], 70), (w5.heap.size, quA x, 64), (g4, quA q, 64), (g3, shA s, 61)]) (fun z hz => ⟨List.mem_cons_of_mem _ hz, by have := HG4.out; have := HB14.out; simp at hz; rcases hz with rfl | rfl | rfl | rfl <;> dsimp only <;> omega⟩)
                    have HS6 := Hd.mk S6
                    have HB6 := Hd.mk (below_cell (below_cell HB4.out b14 0 (.int .i64 xk.1) H0B.out) b14 1 (.int .i64 xk.2) H0B.out)
                    clear S5 S6 HS4 HB4 HS3 HB
                    go_wp2_with fail
                    go_roundw
                    case rel => exact ⟨k, xk, by omega, rfl, by rw [HDR.out, List.any_cons, HAN.out], HF2, HB6, HS6⟩
                    case measure => first | (simp [intOf]; done) | (simp [intOf]; omega)
                  case neg =>
                    have e1 : (xk.1 == y) = false := by simpa using he
                    have HF2 : Hd (f = fstK (l.drop k) y) := ⟨by rw [HDR.out, fstK_cons, e1]; exact HF.out⟩
                    clear he
                    go_wp2_with fail
                    go_quiet (fail)
                    have HS6 := Hd.mk (HS3.out.dr (Dr.drewN c _ nq))
                    have HB6 := Hd.mk (below_drewN HB.out nq)
                    go_wp2_with fail
                    go_roundw
                    case rel => exact ⟨k, f, by omega, rfl, by rw [HDR.out, List.any_cons, HAN.out], HF2, HB6, HS6⟩
                    case measure => first | (simp [intOf]; done) | (simp [intOf]; omega)
                case pos =>
                  have d3 : decide (1 ≤ xk.1) = true := by simp; omega
                  have d4 : decide (xk.1 ≤ 8) = true := by simp; omega
                  have HAN : Hd ((elig s xk || (l.drop (k + 1)).any (elig s)) = decide (0 < s (xk.1.toNat - 1))) := ⟨by rw [hany, Bool.or_false]; simp only [elig, d3, d4, Bool.true_and]; rw [show (xk.1 - 1).toNat = xk.1.toNat - 1 by omega]⟩
                  have hcell := shA_s s (xk.1.toNat - 1) (by omega)
                  have q5 : 0 ≤ xk.1 - 1 := by omega
                  have q6 : xk.1 - 1 < 8 := by omega
                  clear hany
                  by_cases he : xk.1 = y
                  case pos =>
                    have e1 : (xk.1 == y) = true := by simp [he]
                    have HF2 : Hd (xk = fstK (l.drop k) y) := ⟨by rw [HDR.out, fstK_cons, e1]; rfl⟩
                    clear he
                    go_wp2_with fail
                    go_quiet (fail)
                    have HS4 := Hd.mk (HS3.out.dr (Dr.drewN c _ nq))
                    have HB4 := Hd.mk (below_drewN HB.out nq)
                    obtain ⟨p1, p2⟩ := HS3.out.cellsAt b14 #[.int .i64 f.1, .int .i64 f.2] 70 (by simp)
                    have S5 := HS4.out.setCell b14 #[.int .i64 f.1, .int .i64 f.2] 70 (by simp) (by have := HC5.out; have := HB14.out; omega) 0 (.int .i64 xk.1) (l' := [(w5.heap.size + 1, #[.int .i64 y, .int .i64 z], 70), (w5.heap.size, quA x, 64), (g4, quA q, 64), (g3, shA s, 61)]) (fun z hz => ⟨List.mem_cons_of_mem _ hz, by have := HG4.out; have := HB14.out; simp at hz; rcases hz with rfl | rfl | rfl | rfl <;> dsimp only <;> omega⟩)
                    have S6 := S5.setCell b14 _ 70 (List.mem_cons_self ..) (by have := HC5.out; have := HB14.out; omega) 1 (.int .i64 xk.2) (l' := [(w5.heap.size + 1, #[.int .i64 y, .int .i64 z], 70), (w5.heap.size, quA x, 64), (g4, quA q, 64), (g3, shA s, 61)]) (fun z hz => ⟨List.mem_cons_of_mem _ hz, by have := HG4.out; have := HB14.out; simp at hz; rcases hz with rfl | rfl | rfl | rfl <;> dsimp only <;> omega⟩)
                    have HS6 := Hd.mk S6
                    have HB6 := Hd.mk (below_cell (below_cell HB4.out b14 0 (.int .i64 xk.1) H0B.out) b14 1 (.int .i64 xk.2) H0B.out)
                    clear S5 S6 HS4 HB4 HS3 HB
                    go_wp2_with fail
                    go_roundw
                    case rel => exact ⟨k, xk, by omega, rfl, by rw [HDR.out, List.any_cons, HAN.out], HF2, HB6, HS6⟩
                    case measure => first | (simp [intOf]; done) | (simp [intOf]; omega)
                  case neg =>
                    have e1 : (xk.1 == y) = false := by simpa using he
                    have HF2 : Hd (f = fstK (l.drop k) y) := ⟨by rw [HDR.out, fstK_cons, e1]; exact HF.out⟩
                    clear he
                    go_wp2_with fail
                    go_quiet (fail)
                    have HS6 := Hd.mk (HS3.out.dr (Dr.drewN c _ nq))
                    have HB6 := Hd.mk (below_drewN HB.out nq)
                    go_wp2_with fail
                    go_roundw
                    case rel => exact ⟨k, f, by omega, rfl, by rw [HDR.out, List.any_cons, HAN.out], HF2, HB6, HS6⟩
                    case measure => first | (simp [intOf]; done) | (simp [intOf]; omega)
          · obtain rfl : k = 0 := by omega
            rw [List.drop_zero] at HF ⊢
            have hsm : l.any (elig s) = ok := by rw [elig_some, ← HQ.out.2]; exact HA.out.ok.symm
            rw [hsm]
            clear hsm
            cases ok with
            | true =>
              obtain rfl : f = (y, z) := HF.out.trans (HA.out.yes rfl)
              obtain ⟨b1, b2, b3, b4⟩ := HS3.out.at w5.heap.size (quA x) 64 (by simp)
              obtain ⟨c1, c2, c3, c4⟩ := HS3.out.at g4 (quA q) 64 (by simp)
              obtain ⟨m1, m2⟩ := HS3.out.cellsAt (w5.heap.size + 1) #[.int .i64 y, .int .i64 z] 70 (by simp)
              obtain ⟨p1, p2⟩ := HS3.out.cellsAt b14 #[.int .i64 (y, z).1, .int .i64 (y, z).2] 70 (by simp)
              have S := HS3.out.sub (l' := [(g4, quA q, 64), (g3, shA s, 61)]) (fun z hz => by simp at hz ⊢; rcases hz with rfl | rfl <;> simp)
              have HS5 := Hd.mk (S.setRow g4 (quA q) (quA x) 64 (by simp) hcw (l' := [(g3, shA s, 61)]) (fun z hz => ⟨List.mem_cons_of_mem _ hz, by simp at hz; subst hz; have := hg34; dsimp only; omega⟩))
              clear S HS3 HB
              go_wp2_with fail
              go_roundw
              case rel => exact ⟨j + 1, x, by omega, by go_num, ⟨HA.out.v, HA.out.s.trans HQ.out.2⟩, HS5⟩
              case measure => simp [intOf]; omega
            | false =>
              have hx := HA.out.no rfl
              simp only [Prod.mk.injEq] at hx
              obtain ⟨hxq, rfl, rfl⟩ := hx
              subst hxq
              have e1 := quEq_refl x
              obtain ⟨b1, b2, b3, b4⟩ := HS3.out.at w5.heap.size (quA x) 64 (by simp)
              obtain ⟨c1, c2, c3, c4⟩ := HS3.out.at g4 (quA x) 64 (by simp)
              obtain ⟨m1, m2⟩ := HS3.out.cellsAt (w5.heap.size + 1) #[.int .i64 0, .int .i64 0] 70 (by simp)
              obtain ⟨p1, p2⟩ := HS3.out.cellsAt b14 #[.int .i64 f.1, .int .i64 f.2] 70 (by simp)
              have S := HS3.out.sub (l' := [(g4, quA x, 64), (g3, shA s, 61)]) (fun z hz => by simp at hz ⊢; rcases hz with rfl | rfl <;> simp)
              have HS5 := Hd.mk (S.setRow g4 (quA x) (quA x) 64 (by simp) hcw (l' := [(g3, shA s, 61)]) (fun z hz => ⟨List.mem_cons_of_mem _ hz, by simp at hz; subst hz; have := hg34; dsimp only; omega⟩))
              clear S HS3 HB
              go_wp2_with fail
              go_roundw
              case rel => exact ⟨j + 1, x, by omega, by go_num, ⟨HA.out.v, HA.out.s.trans HQ.out.2⟩, HS5⟩
              case measure => simp [intOf]; omega
      · go_wp2_with fail
        go_ret
        exact ⟨rfl, HS.out.below⟩
end Go.Proofs.Ytiebdcejlkeoiaa
