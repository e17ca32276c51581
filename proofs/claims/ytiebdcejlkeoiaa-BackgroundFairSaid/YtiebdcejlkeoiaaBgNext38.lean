/- The walk of the program's choice of background work. -/
import Derived.Test.YtiebdcejlkeoiaaBgNext41
import Derived.Deep.DrawnRows
namespace Go.Proofs.Ytiebdcejlkeoiaa
open Go.RowKit
set_option linter.unusedSimpArgs false
set_option linter.unusedVariables false
attribute [local go_sem ↓] Go.wp_at_zero Go.wp_at_succ

/-! ### nine bools -/
@[irreducible] def boA (f : Nat → Bool) : Array Value := #[.bool (f 0), .bool (f 1), .bool (f 2), .bool (f 3), .bool (f 4), .bool (f 5), .bool (f 6), .bool (f 7), .bool (f 8)]
theorem boA_at (f : Nat → Bool) (i : Nat) (h : i < 9) : (boA f)[i]? = some (.bool (f i)) := by
  unfold boA
  rcases i with _|_|_|_|_|_|_|_|_|i <;> first | rfl | omega
def updB (f : Nat → Bool) (i : Nat) (b : Bool) : Nat → Bool := fun j => if j = i then b else f j
theorem boA_upd (f : Nat → Bool) (i : Nat) (b : Bool) (h : i < 9) : (boA f).setIfInBounds i (.bool b) = boA (updB f i b) := by
  unfold boA updB
  rcases i with _|_|_|_|_|_|_|_|_|i <;> first | rfl | omega
@[go_sem ↓ high] theorem run_zero83 (w : World) : (zeroValue 83).run Try.prog w = .ok (.agg (boA fun _ => false)) w := by unfold boA; kernel_rfl

def ofF (s : Nat → Int) (l : List Wk) (j : Nat) : Bool := decide (1 ≤ j) && decide (j ≤ 8) && (hasK l (j : Int) && decide (0 < s (j - 1)))
theorem ofF_nil (s : Nat → Int) : ofF s [] = fun _ => false := by funext j; simp [ofF, hasK]
theorem hasK_snoc (l : List Wk) (x : Wk) (k : Int) : hasK (l ++ [x]) k = (hasK l k || x.1 == k) := by simp [hasK]
theorem ofF_miss {s : Nat → Int} {l : List Wk} {x : Wk} (h : ¬ (1 ≤ x.1 ∧ x.1 ≤ 8 ∧ 0 < s (x.1 - 1).toNat)) : ofF s (l ++ [x]) = ofF s l := by
  funext j
  simp only [ofF, hasK_snoc]
  by_cases he : x.1 = (j : Int)
  · by_cases h1 : 1 ≤ j
    · by_cases h2 : j ≤ 8
      · have h3 : ¬ 0 < s (j - 1) := fun h3 => h ⟨by omega, by omega, by rw [he, show ((j : Int) - 1).toNat = j - 1 by omega]; exact h3⟩
        simp [h3]
      · simp [h2]
    · simp [h1]
  · have : (x.1 == (j : Int)) = false := by simpa using he
    simp [this]
theorem ofF_hit {s : Nat → Int} {l : List Wk} {x : Wk} (h1 : 1 ≤ x.1) (h2 : x.1 ≤ 8) (h3 : 0 < s (x.1 - 1).toNat) : ofF s (l ++ [x]) = updB (ofF s l) x.1.toNat true := by
  funext j
  simp only [ofF, hasK_snoc, updB]
  by_cases he : j = x.1.toNat
  · subst he
    have e1 : ((x.1.toNat : Nat) : Int) = x.1 := by omega
    have e2 : x.1.toNat - 1 = (x.1 - 1).toNat := by omega
    have e3 : 1 ≤ x.1.toNat := by omega
    have e4 : x.1.toNat ≤ 8 := by omega
    rw [e1, e2]
    simp only [e3, e4, h3, decide_true, beq_self_eq_true, Bool.or_true, Bool.and_true, if_true]
  · have : (x.1 == (j : Int)) = false := by simp; omega
    simp [this, he]
theorem ofF_any (s : Nat → Int) (l : List Wk) : anyB (ofF s l) 9 = someQ s l := by
  rw [Bool.eq_iff_iff]
  simp only [anyB, someQ, List.any_eq_true, List.mem_range]
  constructor
  · rintro ⟨j, hj, h⟩
    simp only [ofF, Bool.and_eq_true, decide_eq_true_eq] at h
    refine ⟨j - 1, by omega, ?_⟩
    simp only [off, Bool.and_eq_true, decide_eq_true_eq]
    rw [show (((j - 1 : Nat) : Int) + 1) = (j : Int) by omega]
    exact h.2
  · rintro ⟨i, hi, h⟩
    refine ⟨i + 1, by omega, ?_⟩
    simp only [off, Bool.and_eq_true, decide_eq_true_eq] at h
    simp only [ofF, Bool.and_eq_true, decide_eq_true_eq]
    exact ⟨⟨by omega, by omega⟩, by push_cast; exact h.1, by simpa using h.2⟩
theorem ofF_kind {l : List Wk} {Q : Qu} (h : Vq Q) : ofF Q.s l Q.kind.toNat = (hasK l Q.kind && decide (0 < Q.sh Q.kind)) := by
  have h1 := h.k1; have h2 := h.k8
  unfold ofF Qu.sh
  have e1 : ((Q.kind.toNat : Nat) : Int) = Q.kind := by omega
  have e2 : Q.kind.toNat - 1 = (Q.kind - 1).toNat := by omega
  rw [e1, e2]
  have e3 : 1 ≤ Q.kind.toNat := by omega
  have e4 : Q.kind.toNat ≤ 8 := by omega
  simp only [e3, e4, decide_true, Bool.true_and]

set_option maxHeartbeats 4000000 in
theorem next38 (a : Option Addr) (cap : Nat) (l : List Wk) (q : Qu) (w : World) (hl : l.length ≤ 100) (hW : WkS w a l) :
    Calls Try.prog 38 #[.agg (quA q), .slice a l.length cap] w (NextPost (nextF q l) w) := by
  obtain ⟨n, hn⟩ : ∃ n, n = l.length := ⟨_, rfl⟩
  rw [← hn] at hl ⊢
  have HNL := Hd.mk hn
  have HW := Hd.mk hW
  clear hW hn
  go_enter Try.func38, Try.ntmps38
  go_wp2_with fail
  refine (valid39 q _).mono ?_
  rintro e w1 ⟨rfl, hb⟩
  have S := ((((Pre.nil w).alloc (quA q) 64 w.heap.size rfl).alloc (quA zQ) 64 (w.heap.size + 1) (by simp)).alloc #[.int .i64 0, .int .i64 0] 70 (w.heap.size + 1 + 1) (by simp)).step hb
  obtain ⟨H, hH⟩ : ∃ H, H = w.heap.size := ⟨_, rfl⟩
  rw [← hH] at S ⊢
  clear hb
  cases hv : vq q with
  | false =>
    have HN := Hd.mk (next_bad (l := l) hv)
    obtain ⟨b1, b2, b3, b4⟩ := S.at (H + 1) (quA zQ) 64 (by simp)
    have B := (S.mem (H + 1 + 1, #[.int .i64 0, .int .i64 0], 70) (by simp)).2
    obtain ⟨d1, d2, d3, d4, d5⟩ := blk B
    clear hv B
    have HS := Hd.mk S
    have HH := Hd.mk hH
    clear S hH
    go_wp2_with fail
    refine bodyPost_ret (v := .tuple #[.agg (quA zQ), .agg #[.int .i64 0, .int .i64 0], .bool false, .int .i64 53]) (results_4 rfl rfl (by simp (maxDischargeDepth := 6) [go_sem, b1, b2, d1, d2]) rfl (by simp (maxDischargeDepth := 6) [go_sem, b1, b2, d1, d2, d3, d4]) rfl rfl) rfl ⟨by rw [HN.out], ?_⟩
    rw [← HH.out]
    exact fin_below HS.out.below _ _ _
  | true =>
    have HV := Hd.mk ((vq_iff q).1 hv)
    have HVB := Hd.mk hv
    have HH := Hd.mk hH
    have HS := Hd.mk (S.alloc (boA fun _ => false) 83 w1.heap.size rfl)
    have HGL : Hd (H + 1 + 1 < w1.heap.size) := ⟨S.lt (x := (H + 1 + 1, #[.int .i64 0, .int .i64 0], 70)) (by simp)⟩
    clear hv hH S
    go_wp2_with fail
    obtain ⟨G, hG⟩ : ∃ G, G = w1.heap.size := ⟨_, rfl⟩
    rw [← hG] at HS HGL ⊢
    have HGB : Hd (w.heap.size ≤ w1.heap.size) := ⟨by have := HGL.out; have := HH.out; omega⟩
    clear hG
    go_loopw [19] (fun v wr => ∃ i : Nat, i ≤ n ∧ v = .int .i64 (i : Int) ∧ Hd (Pre H w [(G, boA (ofF q.s (l.take i)), 83), (H + 1 + 1, #[.int .i64 0, .int .i64 0], 70), (H + 1, quA zQ, 64), (H, quA q, 64)] wr)) (fun v _ => n - (intOf v).toNat)
    case atStart => exact ⟨0, by omega, by simp, ⟨by rw [List.take_zero, ofF_nil]; exact HS.out⟩⟩
    case round =>
      clear HS
      obtain ⟨i, hi, rfl, HS⟩ := hrel
      by_cases hlt : i < n
      · have HW1 := Hd.mk (HW.out.below (by have := HS.out.below; rw [HH.out] at this; exact this))
        obtain ⟨g, rfl, hg⟩ := HW1.out.in (by rw [← HNL.out]; exact hlt)
        obtain ⟨x, hx⟩ : ∃ x, l[i]? = some x := ⟨_, List.getElem?_eq_getElem (by rw [← HNL.out]; exact hlt)⟩
        obtain ⟨hx1, hx2⟩ := hg.2 i x hx
        have hgl := hg.1
        have HT : Hd (l.take (i + 1) = l.take i ++ [x]) := ⟨by rw [List.take_add_one, hx]; rfl⟩
        have q1 : (i : Int) < n := by omega
        have S := HS.out.alloc #[.int .i64 x.1, .int .i64 x.2] 70 wr.heap.size rfl
        obtain ⟨b1, b2, b3, b4⟩ := S.at H (quA q) 64 (by simp)
        obtain ⟨f1, f2⟩ := S.cellsAt wr.heap.size #[.int .i64 x.1, .int .i64 x.2] 70 (by simp)
        have HS2 := Hd.mk S
        clear S HS hg hx HW1
        by_cases h1 : 1 ≤ x.1
        case neg =>
          have HM : Hd (ofF q.s (l.take (i + 1)) = ofF q.s (l.take i)) := ⟨by rw [HT.out]; exact ofF_miss (by omega)⟩
          have d1 : decide (1 ≤ x.1) = false := by simp; omega
          clear h1
          go_wp2_with fail
          go_roundw
          case rel => exact ⟨i + 1, by omega, by go_num, ⟨by rw [HM.out]; exact HS2.out.sub (fun x hx => List.mem_cons_of_mem _ hx)⟩⟩
          case measure => simp [intOf]; omega
        case pos =>
          have d1 : decide (1 ≤ x.1) = true := by simp; omega
          by_cases h2 : x.1 ≤ 8
          case neg =>
            have HM : Hd (ofF q.s (l.take (i + 1)) = ofF q.s (l.take i)) := ⟨by rw [HT.out]; exact ofF_miss (by omega)⟩
            have d2 : decide (x.1 ≤ 8) = false := by simp; omega
            clear h2
            go_wp2_with fail
            go_roundw
            case rel => exact ⟨i + 1, by omega, by go_num, ⟨by rw [HM.out]; exact HS2.out.sub (fun x hx => List.mem_cons_of_mem _ hx)⟩⟩
            case measure => simp [intOf]; omega
          case pos =>
            have d2 : decide (x.1 ≤ 8) = true := by simp; omega
            go_wp2_with fail
            refine (share49 q x.1 _ h1 h2).mono ?_
            rintro e w2 ⟨rfl, hb⟩
            have S := HS2.out.step hb
            clear f1 f2 b1 b2 b3 b4 HS2 hb
            obtain ⟨f1, f2⟩ := S.cellsAt wr.heap.size #[.int .i64 x.1, .int .i64 x.2] 70 (by simp)
            obtain ⟨b1, b2⟩ := S.cellsAt G (boA (ofF q.s (l.take i))) 83 (by simp)
            by_cases h3 : 0 < q.sh x.1
            case neg =>
              have HM : Hd (ofF q.s (l.take (i + 1)) = ofF q.s (l.take i)) := ⟨by rw [HT.out]; exact ofF_miss (fun h => h3 h.2.2)⟩
              have d3 : decide (0 < q.sh x.1) = false := by simp; omega
              have HS2 := Hd.mk S
              clear S h3
              go_wp2_with fail
              go_roundw
              case rel => exact ⟨i + 1, by omega, by go_num, ⟨by rw [HM.out]; exact HS2.out.sub (fun x hx => List.mem_cons_of_mem _ hx)⟩⟩
              case measure => simp [intOf]; omega
            case pos =>
              have HM : Hd (ofF q.s (l.take (i + 1)) = updB (ofF q.s (l.take i)) x.1.toNat true) := ⟨by rw [HT.out]; exact ofF_hit h1 h2 h3⟩
              have d3 : decide (0 < q.sh x.1) = true := by simp; omega
              have hst := boA_at (ofF q.s (l.take i)) x.1.toNat (by omega)
              have HS2 := Hd.mk S
              have S6 := HS2.out.setCell G (boA (ofF q.s (l.take i))) 83 (by simp) x.1.toNat (.bool true) (l' := [(H + 1 + 1, #[.int .i64 0, .int .i64 0], 70), (H + 1, quA zQ, 64), (H, quA q, 64)]) (fun z hz => ⟨by simp at hz ⊢; rcases hz with rfl | rfl | rfl <;> simp, by simp at hz; have := HGL.out; rcases hz with rfl | rfl | rfl <;> dsimp only <;> omega⟩)
              rw [boA_upd _ _ _ (by omega), ← HM.out] at S6
              have HS6 := Hd.mk S6
              clear S S6 h3
              go_wp2_with fail
              go_roundw
              case rel => exact ⟨i + 1, by omega, by go_num, HS6⟩
              case measure => simp [intOf]; omega
      · obtain rfl : i = n := by omega
        have S := HS.out
        rw [List.take_of_length_le (by rw [← HNL.out]; exact Nat.le_refl _)] at S
        replace HS := Hd.mk S
        have HF : Hd (∀ j, j < 9 → wr.cell? ⟨G, j, none⟩ = some (.bool (ofF q.s l j))) := ⟨fun j hj => by rw [(S.cellsAt G (boA (ofF q.s l)) 83 (by simp)).1 j, boA_at _ _ hj]⟩
        have HAN := Hd.mk (ofF_any q.s l)
        clear S
        go_wp2_with fail
        refine (contains50 G (ofF q.s l) _ HF.out).mono ?_
        rintro e w2 ⟨rfl, rfl⟩
        rw [HAN.out]
        cases hsm : someQ q.s l with
        | false =>
          have HN := Hd.mk (next_none (l := l) HVB.out hsm)
          clear hsm
          obtain ⟨b1, b2, b3, b4⟩ := HS.out.at H (quA q) 64 (by simp)
          obtain ⟨c1, c2, c3, c4⟩ := HS.out.at (H + 1) (quA zQ) 64 (by simp)
          have B := (HS.out.mem (H + 1 + 1, #[.int .i64 0, .int .i64 0], 70) (by simp)).2
          obtain ⟨d1, d2, d3, d4, d5⟩ := blk B
          clear B
          go_wp2_with fail
          refine bodyPost_ret (v := .tuple #[.agg (quA q), .agg #[.int .i64 0, .int .i64 0], .bool false, .int .i64 0]) (results_4 rfl rfl (by simp (maxDischargeDepth := 6) [go_sem, b1, b2, c1, c2, d1, d2]) rfl (by simp (maxDischargeDepth := 6) [go_sem, b1, b2, c1, c2, d1, d2, d3, d4]) rfl rfl) rfl ⟨by rw [HN.out], ?_⟩
          rw [← HH.out]
          exact fin_below HS.out.below _ _ _
        | true =>
          have HM := Hd.mk hsm
          have HN := Hd.mk (next_some (l := l) HVB.out hsm)
          clear hsm HF HAN
          go_wp2_with fail
          go_loopw [] (fun wr => ∃ Q : Qu, Hd (Vq Q ∧ Q.s = q.s ∧ pick 9 Q l = pick 9 q l) ∧ Hd (Pre H w [(G, boA (ofF q.s l), 83), (H + 1 + 1, #[.int .i64 0, .int .i64 0], 70), (H + 1, quA zQ, 64), (H, quA Q, 64)] wr)) (fun wr => muQ q.s l H wr)
          case atStart => exact ⟨q, ⟨HV.out, rfl, rfl⟩, HS⟩
          case round =>
            clear HS
            obtain ⟨Q, HQ, HS⟩ := hrel
            have HMU : Hd (muQ q.s l H wr = lenR 20 Q l) := ⟨muQ_of (HS.out.at H (quA Q) 64 (by simp)).1 HQ.out.2.1⟩
            have HSM : Hd (someQ Q.s l = true) := ⟨by rw [HQ.out.2.1]; exact HM.out⟩
            have k1 := HQ.out.1.k1
            have k8 := HQ.out.1.k8
            have hs := boA_at (ofF q.s l) Q.kind.toNat (by omega)
            have HOF : Hd (ofF q.s l Q.kind.toNat = (hasK l Q.kind && decide (0 < Q.sh Q.kind))) := ⟨by rw [← HQ.out.2.1]; exact ofF_kind HQ.out.1⟩
            have hw : ∀ W : World, Pre H w [(G, boA (ofF q.s l), 83), (H + 1 + 1, #[.int .i64 0, .int .i64 0], 70), (H + 1, quA zQ, 64), (H, quA Q, 64)] W → Hd (Pre H w [(G, boA (ofF q.s l), 83), (H + 1 + 1, #[.int .i64 0, .int .i64 0], 70), (H + 1, quA zQ, 64), (H, quA Q, 64)] W) ∧ rowAt W H = quA Q ∧ (∀ o, W.cell? ⟨H, o, none⟩ = (quA Q)[o]?) ∧ (∀ o, W.cell? ⟨G, o, none⟩ = (boA (ofF q.s l))[o]?) :=
              fun W hW => ⟨⟨hW⟩, (hW.at _ _ 64 (by simp)).1, (hW.cellsAt _ _ 64 (by simp)).1, (hW.cellsAt _ _ 83 (by simp)).1⟩
            have HWW := Hd.mk hw
            clear hw
            by_cases hu : Q.used = Q.sh Q.kind
            case pos =>
              have HR : Hd (rdy Q l = false) := ⟨by simp [rdy, hu]⟩
              have d1 : (Q.used == Q.sh Q.kind) = true := by simp [hu]
              clear hu
              obtain ⟨-, r1, r2, r3⟩ := HWW.out _ HS.out.drew
              go_wp2_with fail
              (first | go_region_with ((go_at_call 49; refine (share49 Q Q.kind _ k1 k8).mono ?_; rintro e w7 ⟨rfl, hb⟩; obtain ⟨-, r4, r5, r6⟩ := HWW.out _ (HS.out.drew.step hb))) | fail)
              all_goals
                clear r1 r2 r3 r4 r5 r6
                have HS5 := Hd.mk (HS.out.drew.step hb)
                clear hb HWW HS
                obtain ⟨b1, b2⟩ := HS5.out.cellsAt H (quA Q) 64 (by simp)
                have S6 := HS5.out.setCell H (quA Q) 64 (by simp) 8 (.int .i64 (Q.kind % 8 + 1)) (l' := [(G, boA (ofF q.s l), 83), (H + 1 + 1, #[.int .i64 0, .int .i64 0], 70), (H + 1, quA zQ, 64)]) (fun z hz => ⟨by simp at hz ⊢; rcases hz with rfl | rfl | rfl <;> simp, by simp at hz; have := HGL.out; rcases hz with rfl | rfl | rfl <;> dsimp only <;> omega⟩)
                rw [quA_kind] at S6
                replace S6 := S6.setCell H _ 64 (List.mem_cons_self ..) 9 (.int .i64 0) (l' := [(G, boA (ofF q.s l), 83), (H + 1 + 1, #[.int .i64 0, .int .i64 0], 70), (H + 1, quA zQ, 64)]) (fun z hz => ⟨List.mem_cons_of_mem _ hz, by simp at hz; have := HGL.out; rcases hz with rfl | rfl | rfl <;> dsimp only <;> omega⟩)
                rw [quA_used] at S6
                have HS6 := Hd.mk S6
                clear S6
                go_wp2_with fail
                go_roundw
                case rel => exact ⟨adv Q, ⟨HQ.out.1.adv, HQ.out.2.1, by rw [step_pick HQ.out.1 HSM.out HR.out]; exact HQ.out.2.2⟩, ⟨HS6.out.sub (fun z hz => by simp at hz ⊢; rcases hz with rfl | rfl | rfl | rfl <;> simp [adv])⟩⟩
                case measure =>
                  rw [HMU.out, muQ_of (q := adv Q) (HS6.out.at H (quA (adv Q)) 64 (by simp [adv])).1 HQ.out.2.1]
                  exact step_len HQ.out.1 HSM.out HR.out

            case neg =>
              have d1 : (Q.used == Q.sh Q.kind) = false := by simpa using hu
              have hus : Q.used ≤ Q.sh Q.kind := HQ.out.1.u1
              have hu0 : 0 ≤ Q.used := HQ.out.1.u0
              cases hof : ofF q.s l Q.kind.toNat with
              | false =>
                have HR : Hd (rdy Q l = false) := ⟨by
                  rw [HOF.out] at hof
                  cases hkk : hasK l Q.kind with
                  | false => simp [rdy, hkk]
                  | true =>
                    simp only [hkk, Bool.true_and, decide_eq_false_iff_not] at hof
                    simp only [rdy, hkk, Bool.true_and, decide_eq_false_iff_not]; omega⟩
                have q0 : 0 ≤ Q.kind := by omega
                have q9 : Q.kind < 9 := by omega
                rw [hof] at hs
                go_wp2_with fail
                (first | go_region_held3 (fun W => Hd (Pre H w [(G, boA (ofF q.s l), 83), (H + 1 + 1, #[.int .i64 0, .int .i64 0], 70), (H + 1, quA zQ, 64), (H, quA Q, 64)] W) ∧ rowAt W H = quA Q ∧ (∀ o, W.cell? ⟨H, o, none⟩ = (quA Q)[o]?) ∧ (∀ o, W.cell? ⟨G, o, none⟩ = (boA (ofF q.s l))[o]?)) (first | exact HWW.out _ HS.out | exact HWW.out _ HS.out.drew | exact HWW.out _ (HS.out.drew.step hb)) ((go_at_call 49; refine (share49 Q Q.kind _ k1 k8).mono ?_; rintro e w7 ⟨rfl, hb⟩)) | fail)
                clear hs q0 q9
                have HS5 := Hd.mk (HS.out.drew.step hb)
                clear hb HWW HS
                obtain ⟨b1, b2⟩ := HS5.out.cellsAt H (quA Q) 64 (by simp)
                have S6 := HS5.out.setCell H (quA Q) 64 (by simp) 8 (.int .i64 (Q.kind % 8 + 1)) (l' := [(G, boA (ofF q.s l), 83), (H + 1 + 1, #[.int .i64 0, .int .i64 0], 70), (H + 1, quA zQ, 64)]) (fun z hz => ⟨by simp at hz ⊢; rcases hz with rfl | rfl | rfl <;> simp, by simp at hz; have := HGL.out; rcases hz with rfl | rfl | rfl <;> dsimp only <;> omega⟩)
                rw [quA_kind] at S6
                replace S6 := S6.setCell H _ 64 (List.mem_cons_self ..) 9 (.int .i64 0) (l' := [(G, boA (ofF q.s l), 83), (H + 1 + 1, #[.int .i64 0, .int .i64 0], 70), (H + 1, quA zQ, 64)]) (fun z hz => ⟨List.mem_cons_of_mem _ hz, by simp at hz; have := HGL.out; rcases hz with rfl | rfl | rfl <;> dsimp only <;> omega⟩)
                rw [quA_used] at S6
                have HS6 := Hd.mk S6
                clear S6
                go_wp2_with fail
                go_roundw
                case rel => exact ⟨adv Q, ⟨HQ.out.1.adv, HQ.out.2.1, by rw [step_pick HQ.out.1 HSM.out HR.out]; exact HQ.out.2.2⟩, ⟨HS6.out.sub (fun z hz => by simp at hz ⊢; rcases hz with rfl | rfl | rfl | rfl <;> simp [adv])⟩⟩
                case measure =>
                  rw [HMU.out, muQ_of (q := adv Q) (HS6.out.at H (quA (adv Q)) 64 (by simp [adv])).1 HQ.out.2.1]
                  exact step_len HQ.out.1 HSM.out HR.out

              | true =>
                have HR : Hd (rdy Q l = true) := ⟨by
                  rw [HOF.out, Bool.and_eq_true] at hof
                  simp only [rdy, hof.1, Bool.true_and, decide_eq_true_eq]; omega⟩
                have HK : Hd (hasK l Q.kind = true) := ⟨by rw [HOF.out, Bool.and_eq_true] at hof; exact hof.1⟩
                have hu1 : Q.sh Q.kind ≤ 100 := (HQ.out.1.s0 _ HQ.out.1.i8).2
                rw [hof] at hs
                have q0 : 0 ≤ Q.kind := by omega
                have q9 : Q.kind < 9 := by omega
                go_wp2_with fail
                (first | go_region_held3 (fun W => Hd (Pre H w [(G, boA (ofF q.s l), 83), (H + 1 + 1, #[.int .i64 0, .int .i64 0], 70), (H + 1, quA zQ, 64), (H, quA Q, 64)] W) ∧ rowAt W H = quA Q ∧ (∀ o, W.cell? ⟨H, o, none⟩ = (quA Q)[o]?) ∧ (∀ o, W.cell? ⟨G, o, none⟩ = (boA (ofF q.s l))[o]?)) (first | exact HWW.out _ HS.out | exact HWW.out _ HS.out.drew | exact HWW.out _ (HS.out.drew.step hb)) ((go_at_call 49; refine (share49 Q Q.kind _ k1 k8).mono ?_; rintro e w7 ⟨rfl, hb⟩)) | fail)
                have HS5 := Hd.mk (HS.out.drew.step hb)
                clear hb HWW HS hs q0 q9
                obtain ⟨b1, b2⟩ := HS5.out.cellsAt H (quA Q) 64 (by simp)
                have S6 := HS5.out.setCell H (quA Q) 64 (by simp) 9 (.int .i64 (Q.used + 1)) (l' := [(G, boA (ofF q.s l), 83), (H + 1 + 1, #[.int .i64 0, .int .i64 0], 70), (H + 1, quA zQ, 64)]) (fun z hz => ⟨by simp at hz ⊢; rcases hz with rfl | rfl | rfl <;> simp, by simp at hz; have := HGL.out; rcases hz with rfl | rfl | rfl <;> dsimp only <;> omega⟩)
                rw [quA_used] at S6
                have HS6 := Hd.mk S6
                have HI := Hd.mk (indexFunc51 a cap l { Q with used := Q.used + 1 } H 64 (w7.setCell ⟨H, 9, none⟩ (.int .i64 (Q.used + 1))) (by rw [← HNL.out]; exact hl) (HW.out.below (by have := S6.below; rw [HH.out] at this; rw [← HH.out] at this ⊢; exact this)) (S6.mem (H, quA { Q with used := Q.used + 1 }, 64) (by simp)).2)
                clear S6
                go_wp2_with fail
                clear b1 b2
                generalize hwx : w7.setCell ⟨H, 9, none⟩ (.int .i64 (Q.used + 1)) = W6 at HS6 HI ⊢
                clear hwx HS5
                rw [HNL.out]
                refine HI.out.mono ?_
                rintro e w8 ⟨⟨ix, ⟨hix, hlx, rfl, -⟩ | ⟨hno, -⟩⟩, hb⟩
                case inr => exact absurd (hno.symm.trans HK.out) (by simp)
                rw [← HNL.out] at hlx
                have HS7 := Hd.mk (HS6.out.step hb)
                clear hb HI HS6
                obtain ⟨g, rfl, hg⟩ := HW.out.in (by rw [← HNL.out]; exact hlx)
                have n3 : g < H := by rw [HH.out]; exact hg.1
                have n1 : g ≠ H + 1 := by omega
                have n2 : g ≠ H + 1 + 1 := by omega
                obtain ⟨c3, c4⟩ := (hg.below (by have := HS7.out.below; rw [HH.out] at this; exact this)).2 ix _ hix
                obtain ⟨a1, a2, -, -⟩ := HS7.out.at H (quA { Q with used := Q.used + 1 }) 64 (by simp)
                obtain ⟨b1, b2, -, -⟩ := HS7.out.at (H + 1) (quA zQ) 64 (by simp)
                obtain ⟨d1, d2, d3, d4, d5⟩ := blk (HS7.out.mem (H + 1 + 1, #[.int .i64 0, .int .i64 0], 70) (by simp)).2
                have hw : ∀ W : World, Kept2 H g w8 W → Hd (Kept2 H g w8 W) ∧ rowAt W H = quA { Q with used := Q.used + 1 } ∧ W.cell? ⟨g, ix * 2, none⟩ = some (.int .i64 (fstK l Q.kind).1) ∧ W.cell? ⟨g, ix * 2 + 1, none⟩ = some (.int .i64 (fstK l Q.kind).2) := fun W hW =>
                  ⟨⟨hW⟩, (by unfold rowAt at a1 ⊢; rw [hW.h1]; exact a1), (World.cell?_of_block (w := w8) hW.h2).trans c3, (World.cell?_of_block (w := w8) hW.h2).trans c4⟩
                have HWW := Hd.mk hw
                have n4 : H ≠ H + 1 := by omega
                have n5 : H ≠ H + 1 + 1 := by omega
                have q1 : (ix : Int) < (l.length : Int) := by have := HNL.out; omega
                have q0 : (0 : Int) ≤ ix := by omega
                clear hw a1 a2 c3 c4 hg hix hu hus hu0 hof
                go_wp2_with fail
                go_region_held3 (fun W => Hd (Kept2 H g w8 W) ∧ rowAt W H = quA { Q with used := Q.used + 1 } ∧ W.cell? ⟨g, ix * 2, none⟩ = some (.int .i64 (fstK l Q.kind).1) ∧ W.cell? ⟨g, ix * 2 + 1, none⟩ = some (.int .i64 (fstK l Q.kind).2)) (exact HWW.out _ (by repeat (first | exact Kept2.refl _ _ _ | exact Kept2.drew (Kept2.refl _ _ _) | refine Kept2.setCell ?_ _ _ _ n5 n2 | refine Kept2.setRow ?_ _ _ n4 n1 | refine Kept2.drew ?_))) (fail)
                all_goals
                  go_wp2_with fail
                  refine bodyPost_ret (v := .tuple #[.agg (quA { Q with used := Q.used + 1 }), .agg #[.int .i64 (fstK l Q.kind).1, .int .i64 (fstK l Q.kind).2], .bool true, .int .i64 0]) (results_4 rfl rfl (by simp (maxDischargeDepth := 6) [go_sem, b1, b2, d1, d2, n4, n5]) rfl (by simp (maxDischargeDepth := 6) [go_sem, b1, b2, d1, d2, d3, d4, d5]) rfl rfl) rfl ⟨by rw [HN.out, ← HQ.out.2.2, here_pick HR.out], ?_⟩
                  rw [← HH.out]
                  repeat (first | exact HS7.out.below | refine Below.setCell ?_ (show H ≤ H + 1 + 1 by omega) _ | refine below_setRow ?_ (show H ≤ H + 1 by omega) _ | refine Below.drew ?_)

end Go.Proofs.Ytiebdcejlkeoiaa
