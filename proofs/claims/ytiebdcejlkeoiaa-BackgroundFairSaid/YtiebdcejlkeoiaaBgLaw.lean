/- The plain law of the queue of background work: what is chosen, and what follows from choosing again and again. Plain lists and numbers; no program. -/
import Derived.Test.YtiebdcejlkeoiaaProg
namespace Go.Proofs.Ytiebdcejlkeoiaa
set_option linter.unusedSimpArgs false
set_option linter.unusedVariables false

structure Qu where
  s : Nat → Int
  kind : Int
  used : Int

abbrev Wk := Int × Int
def hasK (l : List Wk) (k : Int) : Bool := l.any fun w => w.1 == k
def fstK (l : List Wk) (k : Int) : Wk := (l.find? fun w => w.1 == k).getD (0, 0)
def Qu.sh (q : Qu) (k : Int) : Int := q.s (k - 1).toNat
def shB (s : Nat → Int) : Bool := (List.range 8).all fun i => decide (0 ≤ s i) && decide (s i ≤ 100)
def vq (q : Qu) : Bool := shB q.s && (decide (1 ≤ q.kind) && decide (q.kind ≤ 8) && decide (0 ≤ q.used) && decide (q.used ≤ q.sh q.kind))
def rdy (q : Qu) (l : List Wk) : Bool := hasK l q.kind && decide (q.used < q.sh q.kind)
def adv (q : Qu) : Qu := { q with kind := q.kind % 8 + 1, used := 0 }
def pick : Nat → Qu → List Wk → Qu
  | 0, q, _ => q
  | n + 1, q, l => if rdy q l then q else pick n (adv q) l
def reach : Nat → Qu → List Wk → Bool
  | 0, _, _ => false
  | n + 1, q, l => rdy q l || reach n (adv q) l
def off (s : Nat → Int) (l : List Wk) (i : Nat) : Bool := hasK l ((i : Int) + 1) && decide (0 < s i)
def someQ (s : Nat → Int) (l : List Wk) : Bool := (List.range 8).any (off s l)
def zQ : Qu := ⟨fun _ => 0, 0, 0⟩
def newF (s : Nat → Int) : Qu × Int := if shB s then (⟨s, 1, 0⟩, 0) else (zQ, 53)
def nextF (q : Qu) (l : List Wk) : Qu × Wk × Bool × Int :=
  if vq q = false then (zQ, (0, 0), false, 53)
  else if someQ q.s l = false then (q, (0, 0), false, 0)
  else ({ pick 9 q l with used := (pick 9 q l).used + 1 }, fstK l (pick 9 q l).kind, true, 0)
def sumS (s : Nat → Int) : Nat → Int
  | 0 => 0
  | n + 1 => sumS s n + s n
def roundF (q : Qu) : Int := if vq q then sumS q.s 8 else 0

structure Vq (q : Qu) : Prop where
  s0 : ∀ i, i < 8 → 0 ≤ q.s i ∧ q.s i ≤ 100
  k1 : 1 ≤ q.kind
  k8 : q.kind ≤ 8
  u0 : 0 ≤ q.used
  u1 : q.used ≤ q.sh q.kind
theorem shB_iff (s : Nat → Int) : shB s = true ↔ ∀ i, i < 8 → 0 ≤ s i ∧ s i ≤ 100 := by
  simp [shB, List.all_eq_true]
theorem vq_iff (q : Qu) : vq q = true ↔ Vq q := by
  simp only [vq, Bool.and_eq_true, shB_iff, decide_eq_true_eq]
  constructor
  · rintro ⟨h, ⟨⟨h1, h2⟩, h3⟩, h4⟩; exact ⟨h, h1, h2, h3, h4⟩
  · rintro ⟨h, h1, h2, h3, h4⟩; exact ⟨h, ⟨⟨h1, h2⟩, h3⟩, h4⟩
theorem vq_new {s : Nat → Int} (h : shB s = true) : vq ⟨s, 1, 0⟩ = true := by
  rw [shB_iff] at h
  rw [vq_iff]
  exact ⟨h, by simp, by simp, by simp, by simpa [Qu.sh] using (h 0 (by omega)).1⟩
theorem vq_new_eq (s : Nat → Int) : vq ⟨s, 1, 0⟩ = shB s := by
  cases h : shB s with
  | true => exact vq_new h
  | false =>
    cases h2 : vq ⟨s, 1, 0⟩ with
    | false => rfl
    | true => rw [vq_iff] at h2; rw [(shB_iff s).2 h2.s0] at h; cases h
theorem Vq.i8 {q : Qu} (h : Vq q) : (q.kind - 1).toNat < 8 := by have := h.k1; have := h.k8; omega
theorem Vq.adv {q : Qu} (h : Vq q) : Vq (adv q) := by
  have h1 := h.k1; have h2 := h.k8
  refine ⟨h.s0, ?_, ?_, ?_, ?_⟩ <;> simp only [Ytiebdcejlkeoiaa.adv]
  · omega
  · omega
  · omega
  · exact (h.s0 _ (by omega)).1
theorem adv_s (q : Qu) : (adv q).s = q.s := rfl
theorem pick_s (n : Nat) (q : Qu) (l : List Wk) : (pick n q l).s = q.s := by
  induction n generalizing q with
  | zero => rfl
  | succ n ih => unfold pick; split; · rfl
                 · rw [ih]; rfl
theorem pick_vq (n : Nat) {q : Qu} (h : Vq q) (l : List Wk) : Vq (pick n q l) := by
  induction n generalizing q with
  | zero => exact h
  | succ n ih => unfold pick; split; · exact h
                 · exact ih h.adv
theorem pick_rdy (n : Nat) {q : Qu} {l : List Wk} (h : reach n q l = true) : rdy (pick n q l) l = true := by
  induction n generalizing q with
  | zero => cases h
  | succ n ih =>
    cases hr : rdy q l with
    | true => rw [show pick (n + 1) q l = q by simp [pick, hr]]; exact hr
    | false => rw [show pick (n + 1) q l = pick n (adv q) l by simp [pick, hr]]; exact ih (by simpa [reach, hr] using h)
theorem rdy_iff {q : Qu} {l : List Wk} : rdy q l = true ↔ hasK l q.kind = true ∧ q.used < q.sh q.kind := by simp [rdy]
/-- From any kind on, one of the next eight (or the first one again, unused) is ready, if one is offered. -/
theorem reach_at {l : List Wk} (n : Nat) {q : Qu} (h : Vq q) (i : Nat) (hi : i < 8) (ho : off q.s l i = true) (hd : ((i : Int) + 1 - q.kind) % 8 < n) (hz : q.used = 0 ∨ (0 < ((i : Int) + 1 - q.kind) % 8)) : reach n q l = true := by
  induction n generalizing q with
  | zero => have := h.k1; have := h.k8; omega
  | succ n ih =>
    unfold reach
    have h1 := h.k1; have h2 := h.k8
    rw [Bool.or_eq_true]
    by_cases he : (i : Int) + 1 = q.kind
    · left
      have hu : q.used = 0 := by rcases hz with h0 | h0; · exact h0
                                 · rw [he] at h0; simp at h0
      simp only [off, Bool.and_eq_true, decide_eq_true_eq] at ho
      have e : (q.kind - 1).toNat = i := by omega
      rw [rdy_iff, ← he, hu]
      unfold Qu.sh
      rw [he, e]
      exact ⟨by rw [← he]; exact ho.1, ho.2⟩
    · right
      refine ih h.adv (by exact ho) ?_ (.inl rfl)
      simp only [adv]
      have : ((i : Int) + 1 - q.kind) % 8 ≠ 0 := by omega
      omega
theorem reach_any {l : List Wk} {q : Qu} (h : Vq q) (hs : someQ q.s l = true) : reach 9 q l = true := by
  simp only [someQ, List.any_eq_true, List.mem_range] at hs
  obtain ⟨i, hi, ho⟩ := hs
  have h1 := h.k1; have h2 := h.k8
  unfold reach
  rw [Bool.or_eq_true]
  right
  refine reach_at 8 h.adv i hi (by exact ho) ?_ (.inl rfl)
  simp only [adv]; omega
theorem reach_some {l : List Wk} (n : Nat) {q : Qu} (h : Vq q) (hr : reach n q l = true) : someQ q.s l = true := by
  induction n generalizing q with
  | zero => cases hr
  | succ n ih =>
    unfold reach at hr
    rw [Bool.or_eq_true] at hr
    rcases hr with hr | hr
    · simp only [rdy, Bool.and_eq_true, decide_eq_true_eq] at hr
      simp only [someQ, List.any_eq_true, List.mem_range]
      have := h.k1; have := h.u0
      refine ⟨(q.kind - 1).toNat, h.i8, ?_⟩
      simp only [off, Bool.and_eq_true, decide_eq_true_eq]
      have e : (((q.kind - 1).toNat : Nat) : Int) + 1 = q.kind := by omega
      rw [e]
      refine ⟨hr.1, ?_⟩
      have := hr.2; simp only [Qu.sh] at this; omega
    · have := ih h.adv hr
      exact this

/-! ### what is chosen -/
theorem fstK_kind {l : List Wk} {k : Int} (h : hasK l k = true) : (fstK l k).1 = k ∧ fstK l k ∈ l := by
  simp only [hasK, List.any_eq_true] at h
  obtain ⟨w, hw, hk⟩ := h
  unfold fstK
  cases hf : l.find? (fun w => w.1 == k) with
  | none => rw [List.find?_eq_none] at hf; exact absurd hk (hf w hw)
  | some x =>
    have h1 := List.find?_some hf
    have h2 := List.mem_of_find?_eq_some hf
    exact ⟨by simpa using h1, h2⟩
theorem next_bad {q : Qu} {l : List Wk} (h : vq q = false) : nextF q l = (zQ, (0, 0), false, 53) := by simp [nextF, h]
theorem next_none {q : Qu} {l : List Wk} (h : vq q = true) (hs : someQ q.s l = false) : nextF q l = (q, (0, 0), false, 0) := by simp [nextF, h, hs]
theorem next_some {q : Qu} {l : List Wk} (h : vq q = true) (hs : someQ q.s l = true) : nextF q l = ({ pick 9 q l with used := (pick 9 q l).used + 1 }, fstK l (pick 9 q l).kind, true, 0) := by simp [nextF, h, hs]
theorem used_vq {q : Qu} {l : List Wk} (h : Vq q) (hr : rdy q l = true) : Vq { q with used := q.used + 1 } := by
  rw [rdy_iff] at hr
  have := h.u0
  exact ⟨h.s0, h.k1, h.k8, by dsimp only; omega, by have := hr.2; dsimp only [Qu.sh] at *; omega⟩
/-- The queue after a choice is valid and has the same shares. -/
theorem next_vq {q : Qu} {l : List Wk} (h : vq q = true) : vq (nextF q l).1 = true ∧ (nextF q l).1.s = q.s ∧ (nextF q l).2.2.2 = 0 ∧ (nextF q l).2.2.1 = someQ q.s l := by
  cases hs : someQ q.s l with
  | false => rw [next_none h hs]; exact ⟨h, rfl, rfl, rfl⟩
  | true =>
    rw [next_some h hs]
    have hv := (vq_iff q).1 h
    refine ⟨(vq_iff _).2 (used_vq (pick_vq 9 hv l) (pick_rdy 9 (reach_any hv hs))), pick_s _ _ _, rfl, rfl⟩

end Go.Proofs.Ytiebdcejlkeoiaa
