/- The walks of the queue: shares, validity, new queues, rounds. -/
import Derived.Test.YtiebdcejlkeoiaaBgBase
import Derived.Test.YtiebdcejlkeoiaaDiff
namespace Go.Proofs.Ytiebdcejlkeoiaa
open Go.RowKit
set_option linter.unusedSimpArgs false
set_option linter.unusedVariables false

theorem below_drewN {B : Nat} {u v : World} (h : Below B u v) (n : Nat) : Below B u (v.drewN n) := ⟨h.os, h.tape, h.output, h.size, h.block⟩
set_option maxHeartbeats 400000 in
theorem share49 (q : Qu) (k : Int) (w : World) (h1 : 1 ≤ k) (h2 : k ≤ 8) : Calls Try.prog 49 #[.agg (quA q), .int .i64 k] w fun e w' => e = .returned (.int .i64 (q.sh k)) ∧ Below w.heap.size w w' := by
  have hs : (quA q)[k.toNat - 1]? = some (.int .i64 (q.sh k)) := by rw [quA_s q _ (by omega)]; unfold Qu.sh; rw [show (k - 1).toNat = k.toNat - 1 by omega]
  have q1 : 0 ≤ k - 1 := by omega
  have q2 : k - 1 < 8 := by omega
  go_enter Try.func49, Try.ntmps49
  go_wp2
  go_ret
  exact ⟨rfl, (Below.refl _ _).alloc (Nat.le_refl _) _⟩

def shTo (s : Nat → Int) (n : Nat) : Prop := ∀ i, i < n → 0 ≤ s i ∧ s i ≤ 100
theorem shB_of (s : Nat → Int) : shB s = true ↔ shTo s 8 := shB_iff s
theorem vq_sh {q : Qu} (h : shB q.s = false) : vq q = false := by simp [vq, h]

set_option maxHeartbeats 1000000 in
theorem valid39 (q : Qu) (w : World) : Calls Try.prog 39 #[.agg (quA q)] w fun e w' => e = .returned (.bool (vq q)) ∧ Below w.heap.size w w' := by
  have h0 := run_ld61q (w.alloc (.cells (quA q) 64)) w.heap.size q (by simp [go_sem])
  go_enter Try.func39, Try.ntmps39
  go_wp2_with fail
  clear h0
  go_loop [7] (fun v => ∃ k : Nat, k ≤ 8 ∧ v = .int .i64 (k : Int) ∧ Hd (shTo q.s k)) (fun v => 8 - (intOf v).toNat)
  case atStart => exact ⟨0, by omega, rfl, ⟨fun i hi => by omega⟩⟩
  case round =>
    obtain ⟨k, hk, rfl, HO⟩ := hrel
    by_cases hlt : k < 8
    · have h1 := run_ix61 (w.alloc (.cells (quA q) 64)) q.s k hlt
      have q1 : (k : Int) < 8 := by omega
      by_cases hv : 0 ≤ q.s k ∧ q.s k ≤ 100
      · obtain ⟨hv1, hv2⟩ := hv
        go_wp2_with fail
        go_round
        case rel => exact ⟨k + 1, by omega, by go_num, ⟨fun i hi => by
          by_cases h : i < k
          · exact HO.out i h
          · obtain rfl : i = k := by omega
            exact ⟨hv1, hv2⟩⟩⟩
        case measure => simp [intOf]; omega
      · have HF : Hd (shB q.s = false) := ⟨by
          cases h : shB q.s with
          | false => rfl
          | true => exact absurd ((shB_iff _).1 h k hlt) hv⟩
        have hb : q.s k < 0 ∨ 100 < q.s k := by omega
        clear hv
        rcases hb with hb | hb
        · go_wp2_with fail
          go_ret
          exact ⟨by rw [vq_sh HF.out]; rfl, (Below.refl _ _).alloc (Nat.le_refl _) _⟩
        · have hb2 : 0 ≤ q.s k := by omega
          go_wp2_with fail
          go_ret
          exact ⟨by rw [vq_sh HF.out]; rfl, (Below.refl _ _).alloc (Nat.le_refl _) _⟩
    · obtain rfl : k = 8 := by omega
      go_wp2_with fail
      have S := (Pre.nil w).alloc (quA q) 64 w.heap.size rfl
      have HS := Hd.mk S
      have hw : ∀ W : World, Pre w.heap.size w [(w.heap.size, quA q, 64)] W → Hd (Pre w.heap.size w [(w.heap.size, quA q, 64)] W) ∧ rowAt W w.heap.size = quA q ∧ (∀ o, W.cell? ⟨w.heap.size, o, none⟩ = (quA q)[o]?) :=
        fun W hW => ⟨⟨hW⟩, (hW.at _ _ 64 (by simp)).1, (hW.cellsAt _ _ 64 (by simp)).1⟩
      have HW := Hd.mk hw
      clear hw S
      have HB : Hd (∀ n, Below w.heap.size w ((w.alloc (.cells (quA q) 64)).drewN n)) := ⟨fun n => below_drewN ((Below.refl _ _).alloc (Nat.le_refl _) _) n⟩
      by_cases c1 : 1 ≤ q.kind
      case neg =>
        have d1 : decide (1 ≤ q.kind) = false := by simp; omega
        have HF : Hd (vq q = false) := ⟨by simp [vq, d1]⟩
        clear c1
        go_quiet (fail)
        go_wp2_with fail
        go_ret
        exact ⟨by rw [HF.out]; rfl, HB.out _⟩
      case pos =>
        have d1 : decide (1 ≤ q.kind) = true := by simp; omega
        by_cases c2 : q.kind ≤ 8
        case neg =>
          have d2 : decide (q.kind ≤ 8) = false := by simp; omega
          have HF : Hd (vq q = false) := ⟨by simp [vq, d2]⟩
          clear c2
          go_quiet (fail)
          go_wp2_with fail
          go_ret
          exact ⟨by rw [HF.out]; rfl, HB.out _⟩
        case pos =>
          have d2 : decide (q.kind ≤ 8) = true := by simp; omega
          by_cases c3 : 0 ≤ q.used
          case neg =>
            have d3 : decide (0 ≤ q.used) = false := by simp; omega
            have HF : Hd (vq q = false) := ⟨by simp [vq, d3]⟩
            clear c3
            go_quiet (fail)
            go_wp2_with fail
            go_ret
            exact ⟨by rw [HF.out]; rfl, HB.out _⟩
          case pos =>
            have d3 : decide (0 ≤ q.used) = true := by simp; omega
            have HF : Hd (vq q = decide (q.used ≤ q.sh q.kind)) := ⟨by simp [vq, d1, d2, d3, (shB_of q.s).2 HO.out]⟩
            clear HO
            go_region_held3 (fun W => Hd (Pre w.heap.size w [(w.heap.size, quA q, 64)] W) ∧ rowAt W w.heap.size = quA q ∧ (∀ o, W.cell? ⟨w.heap.size, o, none⟩ = (quA q)[o]?)) (first | exact HW.out _ HS.out | exact HW.out _ HS.out.drew | exact HW.out _ (HS.out.drew.step hb)) ((go_at_call 49; refine (share49 q q.kind _ c1 c2).mono ?_; rintro e w7 ⟨rfl, hb⟩))
            go_wp2_with fail
            go_ret
            exact ⟨by rw [HF.out]; rfl, (HS.out.drew.step hb).below⟩

set_option maxHeartbeats 1000000 in
theorem valid42 (q : Qu) (w : World) : Calls Try.prog 42 #[.agg (quA q)] w fun e w' => e = .returned (.bool (vq q)) ∧ Below w.heap.size w w' := by
  go_enter Try.func42, Try.ntmps42
  go_wp2_with fail
  go_loop [3] (fun v => ∃ k : Nat, k ≤ 8 ∧ v = .int .i64 (k : Int) ∧ Hd (shTo q.s k)) (fun v => 8 - (intOf v).toNat)
  case atStart => exact ⟨0, by omega, rfl, ⟨fun i hi => by omega⟩⟩
  case round =>
    obtain ⟨k, hk, rfl, HO⟩ := hrel
    by_cases hlt : k < 8
    · have h1 := quA_s q k hlt
      have q1 : (k : Int) < 8 := by omega
      by_cases hv : 0 ≤ q.s k ∧ q.s k ≤ 100
      · obtain ⟨hv1, hv2⟩ := hv
        go_wp2_with fail
        go_round
        case rel => exact ⟨k + 1, by omega, by go_num, ⟨fun i hi => by
          by_cases h : i < k
          · exact HO.out i h
          · obtain rfl : i = k := by omega
            exact ⟨hv1, hv2⟩⟩⟩
        case measure => simp [intOf]; omega
      · have HF : Hd (shB q.s = false) := ⟨by
          cases h : shB q.s with
          | false => rfl
          | true => exact absurd ((shB_iff _).1 h k hlt) hv⟩
        have hb : q.s k < 0 ∨ 100 < q.s k := by omega
        clear hv
        rcases hb with hb | hb
        · go_wp2_with fail
          go_ret
          exact ⟨by rw [vq_sh HF.out]; rfl, (Below.refl _ _).alloc (Nat.le_refl _) _⟩
        · have hb2 : 0 ≤ q.s k := by omega
          go_wp2_with fail
          go_ret
          exact ⟨by rw [vq_sh HF.out]; rfl, (Below.refl _ _).alloc (Nat.le_refl _) _⟩
    · obtain rfl : k = 8 := by omega
      go_wp2_with fail
      have HB : Hd (∀ n, Below w.heap.size w ((w.alloc (.cells (quA q) 64)).drewN n)) := ⟨fun n => below_drewN ((Below.refl _ _).alloc (Nat.le_refl _) _) n⟩
      by_cases c1 : 1 ≤ q.kind
      case neg =>
        have d1 : decide (1 ≤ q.kind) = false := by simp; omega
        have HF : Hd (vq q = false) := ⟨by simp [vq, d1]⟩
        clear c1
        go_quiet (fail)
        go_wp2_with fail
        go_ret
        exact ⟨by rw [HF.out]; rfl, HB.out _⟩
      case pos =>
        have d1 : decide (1 ≤ q.kind) = true := by simp; omega
        by_cases c2 : q.kind ≤ 8
        case neg =>
          have d2 : decide (q.kind ≤ 8) = false := by simp; omega
          have HF : Hd (vq q = false) := ⟨by simp [vq, d2]⟩
          clear c2
          go_quiet (fail)
          go_wp2_with fail
          go_ret
          exact ⟨by rw [HF.out]; rfl, HB.out _⟩
        case pos =>
          have d2 : decide (q.kind ≤ 8) = true := by simp; omega
          by_cases c3 : 0 ≤ q.used
          case neg =>
            have d3 : decide (0 ≤ q.used) = false := by simp; omega
            have HF : Hd (vq q = false) := ⟨by simp [vq, d3]⟩
            clear c3
            go_quiet (fail)
            go_wp2_with fail
            go_ret
            exact ⟨by rw [HF.out]; rfl, HB.out _⟩
          case pos =>
            have d3 : decide (0 ≤ q.used) = true := by simp; omega
            have HF : Hd (vq q = decide (q.used ≤ q.sh q.kind)) := ⟨by simp [vq, d1, d2, d3, (shB_of q.s).2 HO.out]⟩
            have hs : (quA q)[q.kind.toNat - 1]? = some (.int .i64 (q.sh q.kind)) := by rw [quA_s q _ (by omega)]; unfold Qu.sh; rw [show (q.kind - 1).toNat = q.kind.toNat - 1 by omega]
            have q1 : 0 ≤ q.kind - 1 := by omega
            have q2 : q.kind - 1 < 8 := by omega
            clear HO
            go_quiet (fail)
            go_wp2_with fail
            go_ret
            exact ⟨by rw [HF.out]; rfl, HB.out _⟩

theorem newF_ok {s : Nat → Int} (h : shB s = true) : newF s = (⟨s, 1, 0⟩, 0) := by simp [newF, h]
theorem newF_bad {s : Nat → Int} (h : shB s = false) : newF s = (zQ, 53) := by simp [newF, h]

theorem below_setRow {B : Nat} {u v : World} (h : Below B u v) {g : Nat} (hg : B ≤ g) (cs : Array Value) : Below B u (v.setRow g cs) :=
  ⟨h.os, h.tape, h.output, by simpa using h.size, fun k hk => (setRow_other _ _ _ _ (by omega)).trans (h.block k hk)⟩
set_option maxHeartbeats 1000000 in
theorem new36 (s : Nat → Int) (w : World) : Calls Try.prog 36 #[.agg (shA s)] w fun e w' => e = .returned (.tuple #[.agg (quA (newF s).1), .int .i64 (newF s).2]) ∧ Below w.heap.size w w' := by
  have h0 := run_ld61 ((w.alloc (.cells (shA s) 61)).alloc (.cells (quA zQ) 64)) w.heap.size s (by simp [go_sem])
  go_enter Try.func36, Try.ntmps36
  go_wp2_with fail
  refine (valid39 ⟨s, 1, 0⟩ _).mono ?_
  rintro e w1 ⟨rfl, hb⟩
  rw [vq_new_eq]
  have S := ((((Pre.nil w).alloc (shA s) 61 w.heap.size rfl).alloc (quA zQ) 64 (w.heap.size + 1) (by simp)).alloc (quA ⟨s, 1, 0⟩) 64 (w.heap.size + 1 + 1) (by simp)).step hb
  obtain ⟨b1, b2, b3, b4⟩ := S.at (w.heap.size + 1) (quA zQ) 64 (by simp)
  obtain ⟨d1, d2, d3, d4⟩ := S.at (w.heap.size + 1 + 1) (quA ⟨s, 1, 0⟩) 64 (by simp)
  have hlt := S.hBw
  have HS := Hd.mk S
  clear S hb h0
  cases hs : shB s with
  | true =>
    have HN := Hd.mk (newF_ok hs)
    clear hs
    go_wp2_with fail
    refine bodyPost_ret (v := .tuple #[.agg (quA ⟨s, 1, 0⟩), .int .i64 0]) (results_ct rfl rfl (by simp (maxDischargeDepth := 6) [go_sem, b1, b2]) rfl) rfl ⟨by rw [HN.out], ?_⟩
    exact below_setRow HS.out.below (by omega) _
  | false =>
    have HN := Hd.mk (newF_bad hs)
    clear hs
    go_wp2_with fail
    refine bodyPost_ret (v := .tuple #[.agg (quA zQ), .int .i64 53]) (results_ct rfl rfl (by simp (maxDischargeDepth := 6) [go_sem, b1, b2]) rfl) rfl ⟨by rw [HN.out], ?_⟩
    exact below_setRow HS.out.below (by omega) _

set_option maxHeartbeats 1000000 in
theorem new40 (s : Nat → Int) (w : World) : Calls Try.prog 40 #[.agg (shA s)] w fun e w' => e = .returned (.tuple #[.agg (quA (newF s).1), .int .i64 (newF s).2]) ∧ Below w.heap.size w w' := by
  have h0 := run_ld61 ((w.alloc (.cells (shA s) 61)).alloc (.cells (quA zQ) 64)) w.heap.size s (by simp [go_sem])
  go_enter Try.func40, Try.ntmps40
  go_wp2_with fail
  refine (valid42 ⟨s, 1, 0⟩ _).mono ?_
  rintro e w1 ⟨rfl, hb⟩
  rw [vq_new_eq]
  have S := ((((Pre.nil w).alloc (shA s) 61 w.heap.size rfl).alloc (quA zQ) 64 (w.heap.size + 1) (by simp)).alloc (quA ⟨s, 1, 0⟩) 64 (w.heap.size + 1 + 1) (by simp)).step hb
  obtain ⟨b1, b2, b3, b4⟩ := S.at (w.heap.size + 1) (quA zQ) 64 (by simp)
  obtain ⟨d1, d2, d3, d4⟩ := S.at (w.heap.size + 1 + 1) (quA ⟨s, 1, 0⟩) 64 (by simp)
  have hlt := S.hBw
  have HS := Hd.mk S
  clear S hb h0
  cases hs : shB s with
  | true =>
    have HN := Hd.mk (newF_ok hs)
    clear hs
    go_wp2_with fail
    refine bodyPost_ret (v := .tuple #[.agg (quA ⟨s, 1, 0⟩), .int .i64 0]) (results_ct rfl rfl (by simp (maxDischargeDepth := 6) [go_sem, b1, b2]) rfl) rfl ⟨by rw [HN.out], ?_⟩
    exact below_setRow HS.out.below (by omega) _
  | false =>
    have HN := Hd.mk (newF_bad hs)
    clear hs
    go_wp2_with fail
    refine bodyPost_ret (v := .tuple #[.agg (quA zQ), .int .i64 53]) (results_ct rfl rfl (by simp (maxDischargeDepth := 6) [go_sem, b1, b2]) rfl) rfl ⟨by rw [HN.out], ?_⟩
    exact below_setRow HS.out.below (by omega) _


theorem sum_bound {s : Nat → Int} (h : shTo s 8) (n : Nat) (hn : n ≤ 8) : 0 ≤ sumS s n ∧ sumS s n ≤ 100 * n := by
  induction n with
  | zero => simp [sumS]
  | succ n ih =>
    have h1 := ih (by omega)
    have h2 := h n (by omega)
    unfold sumS
    omega

set_option maxHeartbeats 1000000 in
theorem round43 (q : Qu) (w : World) : Calls Try.prog 43 #[.agg (quA q)] w fun e w' => e = .returned (.int .i64 (roundF q)) ∧ Below w.heap.size w w' := by
  go_enter Try.func43, Try.ntmps43
  go_wp2_with fail
  refine (valid39 q _).mono ?_
  rintro e w1 ⟨rfl, hb⟩
  have S := ((Pre.nil w).alloc (quA q) 64 w.heap.size rfl).step hb
  cases hv : vq q with
  | false =>
    have HF : Hd (roundF q = 0) := ⟨by simp [roundF, hv]⟩
    have HS := Hd.mk S
    clear S hb hv
    go_wp2_with fail
    go_ret
    exact ⟨by rw [HF.out]; rfl, HS.out.below⟩
  | true =>
    have HF : Hd (roundF q = sumS q.s 8) := ⟨by simp [roundF, hv]⟩
    have HV : Hd (shTo q.s 8) := ⟨((vq_iff q).1 hv).s0⟩
    obtain ⟨b1, b2, b3, b4⟩ := S.at w.heap.size (quA q) 64 (by simp)
    have l1 := run_ld61q w1 w.heap.size q b1
    have HS := Hd.mk S
    clear S hb hv
    go_wp2_with fail
    clear l1 b1 b2 b3 b4
    go_loop [3, 11] (fun t v => ∃ k : Nat, k ≤ 8 ∧ v = .int .i64 (k : Int) ∧ t = .int .i64 (sumS q.s k)) (fun _ v => 8 - (intOf v).toNat)
    case atStart => exact ⟨0, by omega, rfl, rfl⟩
    case round =>
      obtain ⟨k, hk, rfl, rfl⟩ := hrel
      by_cases hlt : k < 8
      · have h1 := run_ix61 w1 q.s k hlt
        have q1 : (k : Int) < 8 := by omega
        have q2 := HV.out k hlt
        have q3 := sum_bound HV.out k hk
        obtain ⟨q4, q5⟩ := q2
        obtain ⟨q6, q7⟩ := q3
        go_wp2_with fail
        go_round
        case rel => exact ⟨k + 1, by omega, by go_num, rfl⟩
        case measure => simp [intOf]; omega
      · obtain rfl : k = 8 := by omega
        go_wp2_with fail
        go_ret
        exact ⟨by rw [HF.out]; rfl, HS.out.below⟩

set_option maxHeartbeats 1000000 in
theorem round44 (q : Qu) (w : World) : Calls Try.prog 44 #[.agg (quA q)] w fun e w' => e = .returned (.int .i64 (roundF q)) ∧ Below w.heap.size w w' := by
  go_enter Try.func44, Try.ntmps44
  go_wp2_with fail
  cases hv : vq q with
  | false =>
    have HF : Hd (roundF q = 0) := ⟨by simp [roundF, hv]⟩
    have HV := Hd.mk hv
    clear hv
    go_loopw [3, 4] (fun t v wr => t = .int .i64 0 ∧ v = .int .i64 0 ∧ Hd (Pre w.heap.size w [(w.heap.size, quA q, 64)] wr)) (fun _ _ _ => 0)
    case atStart => exact ⟨rfl, rfl, ⟨(Pre.nil w).alloc (quA q) 64 w.heap.size rfl⟩⟩
    case round =>
      obtain ⟨rfl, rfl, HS⟩ := hrel
      obtain ⟨b1, b2, b3, b4⟩ := HS.out.at w.heap.size (quA q) 64 (by simp)
      go_wp2_with fail
      refine (valid42 q _).mono ?_
      rintro e w1 ⟨rfl, hb⟩
      rw [HV.out]
      have HS1 := Hd.mk (HS.out.step hb)
      clear hb b1 b2 b3 b4
      go_wp2_with fail
      go_ret
      exact ⟨by rw [HF.out]; rfl, HS1.out.below⟩
  | true =>
    have HF : Hd (roundF q = sumS q.s 8) := ⟨by simp [roundF, hv]⟩
    have HV : Hd (shTo q.s 8) := ⟨((vq_iff q).1 hv).s0⟩
    have HT := Hd.mk hv
    clear hv
    go_loopw [3, 4] (fun t v wr => ∃ k : Nat, k ≤ 8 ∧ v = .int .i64 (k : Int) ∧ t = .int .i64 (sumS q.s k) ∧ Hd (Pre w.heap.size w [(w.heap.size, quA q, 64)] wr)) (fun _ v _ => 8 - (intOf v).toNat)
    case atStart => exact ⟨0, by omega, rfl, rfl, ⟨(Pre.nil w).alloc (quA q) 64 w.heap.size rfl⟩⟩
    case round =>
      obtain ⟨k, hk, rfl, rfl, HS⟩ := hrel
      by_cases hlt : k < 8
      · have q1 : (k : Int) < 8 := by omega
        have q2 := HV.out k hlt
        have q3 := sum_bound HV.out k hk
        obtain ⟨q4, q5⟩ := q2
        obtain ⟨q6, q7⟩ := q3
        obtain ⟨b1, b2, b3, b4⟩ := HS.out.at w.heap.size (quA q) 64 (by simp)
        go_wp2_with fail
        refine (valid42 q _).mono ?_
        rintro e w1 ⟨rfl, hb⟩
        rw [HT.out]
        have S := HS.out.step hb
        have h1 := quA_s q k hlt
        have c1 := (S.cellsAt w.heap.size (quA q) 64 (by simp)).1
        replace HS := Hd.mk S
        clear S hb b1 b2 b3 b4
        go_wp2_with fail
        go_roundw
        case rel => exact ⟨k + 1, by omega, by go_num, rfl, HS⟩
        case measure => simp [intOf]; omega
      · obtain rfl : k = 8 := by omega
        go_wp2_with fail
        go_ret
        exact ⟨by rw [HF.out]; rfl, HS.out.below⟩
end Go.Proofs.Ytiebdcejlkeoiaa
