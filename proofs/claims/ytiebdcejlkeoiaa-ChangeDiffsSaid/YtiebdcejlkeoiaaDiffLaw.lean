/- The plain law of ChangeDiffs' second loop: as long as a change is left, one is found, and each one applied leaves one less. -/
import Derived.Test.YtiebdcejlkeoiaaSame
namespace Go.Proofs.Ytiebdcejlkeoiaa
open Go.RowKit
set_option linter.unusedSimpArgs false
set_option linter.unusedVariables false

/-- How many of the first n cells differ. -/
def dif (p q : Pg) : Nat → Nat
  | 0 => 0
  | n + 1 => if clEq (p.cell n) (q.cell n) = true then dif p q n else dif p q n + 1
theorem dl_dif (p q : Pg) (n : Nat) : (dl p q n).length = dif p q n := by
  induction n with
  | zero => rfl
  | succ n ih =>
    unfold dl dif
    split
    · exact ih
    · simp [ih]
theorem dif_zero {p q : Pg} (n : Nat) (h : dif p q n = 0) : ∀ i, i < n → clEq (p.cell i) (q.cell i) = true := by
  induction n with
  | zero => intro i hi; omega
  | succ n ih =>
    unfold dif at h
    split at h
    · intro i hi
      by_cases hin : i < n
      · exact ih h i hin
      · obtain rfl : i = n := by omega
        assumption
    · omega
theorem dif_of_eq {p q : Pg} (n : Nat) (h : ∀ i, i < n → clEq (p.cell i) (q.cell i) = true) : dif p q n = 0 := by
  induction n with
  | zero => rfl
  | succ n ih =>
    unfold dif
    rw [if_pos (h n (by omega))]
    exact ih (fun i hi => h i (by omega))
theorem dif_congr {p p' q : Pg} (n : Nat) (h : ∀ i, i < n → p.cell i = p'.cell i) : dif p q n = dif p' q n := by
  induction n with
  | zero => rfl
  | succ n ih =>
    unfold dif
    rw [ih (fun i hi => h i (by omega)), h n (by omega)]
theorem dif_upd {p q : Pg} {s : Nat} (n : Nat) (hs : s < n) (hne : clEq (p.cell s) (q.cell s) = false) : dif (p.upd s (q.cell s)) q n + 1 = dif p q n := by
  induction n with
  | zero => omega
  | succ n ih =>
    by_cases hsn : s = n
    · subst hsn
      have h1 : dif (p.upd s (q.cell s)) q s = dif p q s := dif_congr s (fun i hi => by simp [Pg.upd, show i ≠ s by omega])
      unfold dif
      rw [Pg.upd_at, if_pos (clEq_refl _), if_neg (by simp [hne]), h1]
    · have h1 := ih (by omega)
      have h2 : (p.upd s (q.cell s)).cell n = p.cell n := by simp [Pg.upd, show n ≠ s by omega]
      unfold dif
      rw [h2]
      split <;> omega
/-- Each change of the list: its cell, that the two pages differ there. -/
theorem dl_at {p q : Pg} (n k : Nat) (x : Ch) (h : (dl p q n)[k]? = some x) : ∃ s, s < n ∧ x = ⟨p.id, (s : Int), p.cell s, q.cell s⟩ ∧ clEq (p.cell s) (q.cell s) = false := by
  induction n with
  | zero => simp [dl] at h
  | succ n ih =>
    cases hc : clEq (p.cell n) (q.cell n) with
    | true =>
      rw [dl_same hc] at h
      obtain ⟨s, h1, h2⟩ := ih h
      exact ⟨s, by omega, h2⟩
    | false =>
      rw [dl_more hc] at h
      by_cases hk : k < (dl p q n).length
      · rw [List.getElem?_append_left hk] at h
        obtain ⟨s, h1, h2⟩ := ih h
        exact ⟨s, by omega, h2⟩
      · rw [List.getElem?_append_right (by omega)] at h
        have hk0 : k - (dl p q n).length = 0 := by
          rcases hz : k - (dl p q n).length with _ | z
          · rfl
          · rw [hz] at h; simp at h
        rw [hk0] at h
        simp at h
        exact ⟨n, by omega, h.symm, hc⟩
theorem dl_mem {p q : Pg} (n s : Nat) (hs : s < n) (hc : clEq (p.cell s) (q.cell s) = false) : ∃ k, k < (dl p q n).length ∧ (dl p q n)[k]? = some ⟨p.id, (s : Int), p.cell s, q.cell s⟩ := by
  induction n with
  | zero => omega
  | succ n ih =>
    by_cases hsn : s = n
    · subst hsn
      rw [dl_more hc]
      exact ⟨(dl p q s).length, by simp, by simp⟩
    · obtain ⟨k, hk, h⟩ := ih (by omega)
      cases hc2 : clEq (p.cell n) (q.cell n) with
      | true => rw [dl_same hc2]; exact ⟨k, hk, h⟩
      | false => rw [dl_more hc2]; exact ⟨k, by simp; omega, by rw [List.getElem?_append_left hk]; exact h⟩
/-- A page on its way from p to q. -/
structure Way (p q P : Pg) : Prop where
  id : P.id = p.id
  lsn : P.lsn = p.lsn
  cell : ∀ i, P.cell i = p.cell i ∨ P.cell i = q.cell i
theorem Way.refl (p q : Pg) : Way p q p := ⟨rfl, rfl, fun _ => .inl rfl⟩
theorem Way.upd {p q P : Pg} (h : Way p q P) (s : Nat) : Way p q (P.upd s (q.cell s)) :=
  ⟨h.id, h.lsn, fun i => by
    by_cases hi : i = s
    · subst hi; right; simp [Pg.upd]
    · rw [show (P.upd s (q.cell s)).cell i = P.cell i by simp [Pg.upd, hi]]; exact h.cell i⟩
theorem Way.old {p q P : Pg} (h : Way p q P) {s : Nat} (hne : clEq (P.cell s) (q.cell s) = false) : P.cell s = p.cell s := by
  rcases h.cell s with h1 | h1
  · exact h1
  · rw [h1, clEq_refl] at hne; cases hne
/-- If every change of the list lies in P already, nothing is left. -/
theorem Way.done {p q P : Pg} (h : Way p q P) (hall : ∀ (k : Nat) (x : Ch), (dl p q 16)[k]? = some x → clEq (P.cell x.slot.toNat) x.after = true) : dif P q 16 = 0 := by
  refine dif_of_eq 16 fun i hi => ?_
  cases hc : clEq (P.cell i) (q.cell i) with
  | true => rfl
  | false =>
    have h1 := h.old hc
    rw [h1] at hc
    obtain ⟨k, hk, hx⟩ := dl_mem 16 i hi hc
    have := hall k _ hx
    simp only [Int.toNat_natCast] at this
    rw [h1] at this
    rw [this] at hc
    cases hc
/-- All positions of a ring, from any one on. -/
theorem ring_all {n at0 : Nat} {good : Nat → Prop} (hn : 0 < n) (h : ∀ m, m < n → good ((at0 + m) % n)) : ∀ k, k < n → good k := by
  intro k hk
  have h0 := Nat.mod_lt at0 hn
  by_cases hle : at0 % n ≤ k
  · have := h (k - at0 % n) (by omega)
    rw [← Nat.mod_add_mod, show at0 % n + (k - at0 % n) = k by omega, Nat.mod_eq_of_lt hk] at this
    exact this
  · have := h (n + k - at0 % n) (by omega)
    rw [← Nat.mod_add_mod, show at0 % n + (n + k - at0 % n) = k + n by omega, Nat.add_mod_right, Nat.mod_eq_of_lt hk] at this
    exact this
end Go.Proofs.Ytiebdcejlkeoiaa
