/- The plain laws of choosing again and again: a kind that is always offered is chosen within a round; if all are offered, each is chosen as often as its share. -/
import Derived.Test.YtiebdcejlkeoiaaBgLaw
namespace Go.Proofs.Ytiebdcejlkeoiaa
set_option linter.unusedSimpArgs false
set_option linter.unusedVariables false

/-- The shares of the first n kinds, counted round and round. -/
def preS (s : Nat → Int) : Nat → Int
  | 0 => 0
  | n + 1 => preS s n + s (n % 8)
theorem preS_8 (s : Nat → Int) : preS s 8 = sumS s 8 := by simp [preS, sumS]
theorem preS_add8 (s : Nat → Int) (n : Nat) : preS s (n + 8) = preS s n + sumS s 8 := by
  induction n with
  | zero => rw [Nat.zero_add, preS_8]; simp [preS]
  | succ n ih =>
    have e : n + 1 + 8 = (n + 8) + 1 := by omega
    rw [e]
    show preS s (n + 8) + s ((n + 8) % 8) = preS s n + s (n % 8) + sumS s 8
    rw [ih, show (n + 8) % 8 = n % 8 by omega]; omega
theorem preS_mono {s : Nat → Int} (h : ∀ i, i < 8 → 0 ≤ s i) (a b : Nat) (hab : a ≤ b) : preS s a ≤ preS s b := by
  induction b with
  | zero => obtain rfl : a = 0 := by omega
            exact Int.le_refl _
  | succ b ih =>
    by_cases hb : a ≤ b
    · have := ih hb
      have := h (b % 8) (Nat.mod_lt _ (by omega))
      show preS s a ≤ preS s b + s (b % 8)
      omega
    · obtain rfl : a = b + 1 := by omega
      exact Int.le_refl _
theorem preS_mul (s : Nat → Int) (r j : Nat) : preS s (8 * r + j) = (r : Int) * sumS s 8 + preS s j := by
  induction r with
  | zero => simp
  | succ r ih =>
    rw [show 8 * (r + 1) + j = (8 * r + j) + 8 by omega, preS_add8, ih, Int.natCast_succ, Int.add_mul, Int.one_mul]; omega

theorem sh_at {q : Qu} {i : Nat} (h : q.kind = ((i % 8 : Nat) : Int) + 1) : q.sh q.kind = q.s (i % 8) := by
  unfold Qu.sh; rw [h]; congr 1; omega
theorem adv_at {q : Qu} {i : Nat} (h : q.kind = ((i % 8 : Nat) : Int) + 1) : (adv q).kind = (((i + 1) % 8 : Nat) : Int) + 1 := by
  simp only [adv]; rw [h]; omega
/-- Where the next choice is. -/
theorem pick_at {l : List Wk} (n : Nat) {q : Qu} (hv : Vq q) (i : Nat) (hk : q.kind = ((i % 8 : Nat) : Int) + 1) (hr : reach n q l = true) :
    ∃ i', i ≤ i' ∧ (pick n q l).kind = ((i' % 8 : Nat) : Int) + 1 ∧ preS q.s i + q.used ≤ preS q.s i' + (pick n q l).used ∧
      (∀ T, i ≤ T → hasK l (((T % 8 : Nat) : Int) + 1) = true → (T = i → q.used < q.s (T % 8)) → 0 < q.s (T % 8) → i' ≤ T) ∧
      ((∀ k : Nat, k < 8 → hasK l ((k : Int) + 1) = true) → preS q.s i + q.used = preS q.s i' + (pick n q l).used) := by
  induction n generalizing q i with
  | zero => cases hr
  | succ n ih =>
    cases hd : rdy q l with
    | true =>
      rw [show pick (n + 1) q l = q by simp [pick, hd]]
      exact ⟨i, Nat.le_refl _, hk, Int.le_refl _, fun T hT _ _ _ => hT, fun _ => rfl⟩
    | false =>
      rw [show pick (n + 1) q l = pick n (adv q) l by simp [pick, hd]]
      have hsh := sh_at hk
      have hu := hv.u1
      rw [hsh] at hu
      obtain ⟨i', h1, h2, h3, h4, h5⟩ := ih hv.adv (i + 1) (adv_at hk) (by simpa [reach, hd] using hr)
      have hadv : preS (adv q).s (i + 1) + (adv q).used = preS q.s i + q.s (i % 8) := by
        show preS q.s i + q.s (i % 8) + 0 = _
        omega
      rw [hadv] at h3 h5
      have hnr : ¬ (hasK l q.kind = true ∧ q.used < q.sh q.kind) := by rw [← rdy_iff, hd]; simp
      refine ⟨i', by omega, h2, ?_, fun T hT hK hTi h0 => ?_, fun hall => ?_⟩
      · have : preS (adv q).s i' = preS q.s i' := rfl
        rw [this] at h3
        omega
      · have hne : T ≠ i := by
          rintro rfl
          exact hnr ⟨by rw [hk]; exact hK, by rw [hsh]; exact hTi rfl⟩
        exact h4 T (by omega) hK (fun _ => h0) h0
      · have h6 := h5 hall
        have : preS (adv q).s i' = preS q.s i' := rfl
        rw [this] at h6
        have hlt : ¬ q.used < q.s (i % 8) := fun hl => hnr ⟨by rw [hk]; exact hall _ (Nat.mod_lt _ (by omega)), by rw [hsh]; exact hl⟩
        omega

/-! ### a kind that is always offered -/
structure FairI (s : Nat → Int) (k : Nat) (q : Qu) (since : Int) : Prop where
  v : vq q = true
  sq : q.s = s
  n0 : 0 ≤ since
  n1 : since ≤ sumS s 8
  pos : ∃ i T : Nat, q.kind = ((i % 8 : Nat) : Int) + 1 ∧ i ≤ T ∧ T % 8 = k ∧ (T = i → q.used < s k) ∧ since + preS s T - (preS s i + q.used) ≤ sumS s 8
structure FairR (s : Nat → Int) (k : Nat) (since : Int) (r : Qu × Wk × Bool × Int) : Prop where
  e : r.2.2.2 = 0
  ok : r.2.2.1 = true
  w : ∃ kk : Nat, kk < 8 ∧ r.2.1.1 = (kk : Int) + 1 ∧ s kk ≠ 0
  i : FairI s k r.1 (if r.2.1.1 == (k : Int) + 1 then 0 else since + 1)
theorem fair_start {s : Nat → Int} (h : shB s = true) {k : Nat} (hk : k < 8) (h0 : 0 < s k) : FairI s k ⟨s, 1, 0⟩ 0 := by
  have hs := (shB_iff s).1 h
  have hm := preS_mono (s := s) (fun i hi => (hs i hi).1)
  have hR : 0 ≤ sumS s 8 := by have := hm 0 8 (by omega); rw [preS_8] at this; exact this
  refine ⟨vq_new h, rfl, Int.le_refl _, hR, 0, k, rfl, Nat.zero_le _, Nat.mod_eq_of_lt hk, fun _ => h0, ?_⟩
  have := hm k 8 (by omega)
  rw [preS_8] at this
  show (0 : Int) + preS s k - (preS s 0 + 0) ≤ _
  simp only [preS]; omega
theorem fair_next {s : Nat → Int} {k : Nat} {q : Qu} {since : Int} {l : List Wk} (hk : k < 8) (h0 : 0 < s k) (hI : FairI s k q since) (hl : hasK l ((k : Int) + 1) = true) : FairR s k since (nextF q l) := by
  obtain ⟨hvb, rfl, n0, n1, i, T, hki, hiT, hTk, hTu, hsum⟩ := hI
  have hv := (vq_iff q).1 hvb
  have hsm : someQ q.s l = true := by
    simp only [someQ, List.any_eq_true, List.mem_range, off, Bool.and_eq_true, decide_eq_true_eq]
    exact ⟨k, hk, hl, h0⟩
  have hm := preS_mono (s := q.s) (fun i hi => (hv.s0 i hi).1)
  have hre := reach_any hv hsm
  have hrd := pick_rdy 9 hre
  have hpv := pick_vq 9 hv l
  obtain ⟨i', h1, h2, h3, h4, -⟩ := pick_at 9 hv i hki hre
  have h5 := h4 T hiT (by rw [hTk]; exact hl) (by rw [hTk]; exact hTu) (by rw [hTk]; exact h0)
  have hps := pick_s 9 q l
  rw [next_some hvb hsm]
  generalize pick 9 q l = p at hrd hpv h2 h3 hps
  have huv := used_vq hpv hrd
  rw [rdy_iff] at hrd
  have hw := (fstK_kind hrd.1).1
  have hsh := sh_at h2
  rw [hsh, hps] at hrd
  have hp0 := hpv.u0
  have hR : 0 ≤ sumS q.s 8 := by have := hm 0 8 (by omega); rw [preS_8] at this; exact this
  refine ⟨rfl, rfl, ⟨i' % 8, Nat.mod_lt _ (by omega), by rw [← h2]; exact hw, ?_⟩, ?_⟩
  · have := hrd.2; omega
  · dsimp only
    rw [hw]
    have hone : preS q.s (i' + 1) = preS q.s i' + q.s (i' % 8) := rfl
    refine ⟨(vq_iff _).2 huv, hps, ?_, ?_, ?_⟩
    · split <;> omega
    · by_cases hlt : i' < T
      · have := hm (i' + 1) T (by omega)
        have := hrd.2
        split <;> omega
      · obtain rfl : i' = T := by omega
        rw [if_pos (by rw [h2, hTk]; simp)]; exact hR
    · by_cases hlt : i' < T
      · refine ⟨i', T, h2, by omega, hTk, fun e => by omega, ?_⟩
        dsimp only
        have := hm (i' + 1) T (by omega)
        have := hrd.2
        split <;> omega
      · obtain rfl : i' = T := by omega
        rw [if_pos (by rw [h2, hTk]; simp)]
        rw [hTk] at hrd
        by_cases hu : p.used + 1 < q.s k
        · exact ⟨i', i', h2, Nat.le_refl _, hTk, fun _ => hu, by dsimp only; omega⟩
        · refine ⟨i', i' + 8, h2, by omega, by omega, fun e => by omega, ?_⟩
          dsimp only
          rw [preS_add8]; have := hrd.2; omega

/-! ### all kinds offered -/
def allW : List Wk := [(1, 0), (2, 1), (3, 2), (4, 3), (5, 4), (6, 5), (7, 6), (8, 7)]
theorem allW_has (k : Nat) (hk : k < 8) : hasK allW ((k : Int) + 1) = true ∧ fstK allW ((k : Int) + 1) = ((k : Int) + 1, (k : Int)) := by
  rcases k with _|_|_|_|_|_|_|_|k <;> first | exact ⟨rfl, rfl⟩ | omega
/-- How often a kind was chosen after m choices of a round. -/
def gotF (s : Nat → Int) (m : Int) (j : Nat) : Int := max 0 (min (m - preS s j) (s j))
theorem got_full {s : Nat → Int} (h : ∀ i, i < 8 → 0 ≤ s i) (j : Nat) (hj : j < 8) : gotF s (sumS s 8) j = s j := by
  have hm := preS_mono h
  have h1 := hm (j + 1) 8 (by omega)
  rw [preS_8] at h1
  have h2 : preS s (j + 1) = preS s j + s j := by show preS s j + s (j % 8) = _; rw [Nat.mod_eq_of_lt hj]
  have h3 := h j hj
  unfold gotF; omega
theorem got_zero {s : Nat → Int} (h : ∀ i, i < 8 → 0 ≤ s i) (j : Nat) : gotF s 0 j = 0 := by
  have := preS_mono h 0 j (Nat.zero_le _)
  unfold gotF
  simp only [preS] at this
  omega
structure AllI (s : Nat → Int) (P : Int) (q : Qu) : Prop where
  v : vq q = true
  sq : q.s = s
  pos : ∃ i : Nat, q.kind = ((i % 8 : Nat) : Int) + 1 ∧ preS s i + q.used = P
theorem all_start {s : Nat → Int} (h : shB s = true) : AllI s 0 ⟨s, 1, 0⟩ := ⟨vq_new h, rfl, 0, rfl, rfl⟩
structure AllR (s : Nat → Int) (r : Nat) (m : Int) (x : Qu × Wk × Bool × Int) : Prop where
  e : x.2.2.2 = 0
  ok : x.2.2.1 = true
  w : ∃ j : Nat, j < 8 ∧ x.2.1 = ((j : Int) + 1, (j : Int)) ∧ (∀ g : Nat → Int, (∀ i, i < 8 → g i = gotF s m i) → ∀ i, i < 8 → (if i = j then g j + 1 else g i) = gotF s (m + 1) i)
  i : AllI s ((r : Int) * sumS s 8 + (m + 1)) x.1
theorem all_next {s : Nat → Int} {r : Nat} {m : Int} {q : Qu} (h0 : 0 ≤ m) (hm1 : m < sumS s 8) (hI : AllI s ((r : Int) * sumS s 8 + m) q) : AllR s r m (nextF q allW) := by
  obtain ⟨hvb, rfl, i, hki, hP⟩ := hI
  have hv := (vq_iff q).1 hvb
  have hs0 : ∀ i, i < 8 → 0 ≤ q.s i := fun i hi => (hv.s0 i hi).1
  have hm := preS_mono hs0
  have hsm : someQ q.s allW = true := by
    rw [← Bool.not_eq_false]
    intro hf
    have hz : ∀ i, i < 8 → q.s i = 0 := fun i hi => by
      have h1 := hs0 i hi
      have h2 : off q.s allW i = false := by
        rw [Bool.eq_false_iff]
        intro ht
        have : someQ q.s allW = true := by simp only [someQ, List.any_eq_true, List.mem_range]; exact ⟨i, hi, ht⟩
        rw [hf] at this; cases this
      simp only [off, (allW_has i hi).1, Bool.true_and, decide_eq_false_iff_not] at h2
      omega
    have : sumS q.s 8 = 0 := by simp [sumS, hz]
    omega
  have hre := reach_any hv hsm
  have hrd := pick_rdy 9 hre
  have hpv := pick_vq 9 hv allW
  obtain ⟨i', h1, h2, -, -, h5⟩ := pick_at 9 hv i hki hre
  have h6 := h5 (fun k hk => (allW_has k hk).1)
  have hps := pick_s 9 q allW
  rw [next_some hvb hsm]
  generalize pick 9 q allW = p at hrd hpv h2 h6 hps
  have huv := used_vq hpv hrd
  rw [rdy_iff] at hrd
  have hsh := sh_at h2
  rw [hsh, hps] at hrd
  have hp0 := hpv.u0
  have hone : preS q.s (i' + 1) = preS q.s i' + q.s (i' % 8) := rfl
  have hlo : 8 * r ≤ i' := by
    by_cases hlt : 8 * r ≤ i'
    · exact hlt
    · have ha := hm (i' + 1) (8 * r) (by omega)
      have hb := preS_mul q.s r 0
      simp only [Nat.add_zero, preS, Int.add_zero] at hb
      have := hrd.2
      omega
  have hhi : i' < 8 * r + 8 := by
    by_cases hlt : i' < 8 * r + 8
    · exact hlt
    · have ha := hm (8 * r + 8) i' (by omega)
      rw [preS_mul, preS_8] at ha
      omega
  obtain ⟨j, hj, rfl⟩ : ∃ j, j < 8 ∧ i' = 8 * r + j := ⟨i' - 8 * r, by omega, by omega⟩
  have hj8 : (8 * r + j) % 8 = j := by omega
  rw [hj8] at h2 hrd
  rw [preS_mul] at h6
  refine ⟨rfl, rfl, ⟨j, hj, ?_, fun g hg i hi => ?_⟩, (vq_iff _).2 huv, hps, 8 * r + j, by rw [hj8]; exact h2, ?_⟩
  · dsimp only
    rw [h2, (allW_has j hj).2]
  · have hu := hrd.2
    by_cases hij : i = j
    · subst hij
      rw [if_pos rfl, hg i hi]
      unfold gotF; omega
    · rw [if_neg hij, hg i hi]
      have hs := hs0 i hi
      by_cases hlt : i < j
      · have ha := hm (i + 1) j (by omega)
        have hb : preS q.s (i + 1) = preS q.s i + q.s i := by show preS q.s i + q.s (i % 8) = _; rw [Nat.mod_eq_of_lt hi]
        unfold gotF; omega
      · have ha := hm (j + 1) i (by omega)
        have hb : preS q.s (j + 1) = preS q.s j + q.s j := by show preS q.s j + q.s (j % 8) = _; rw [Nat.mod_eq_of_lt hj]
        unfold gotF; omega
  · rw [preS_mul]; dsimp only; omega
end Go.Proofs.Ytiebdcejlkeoiaa
