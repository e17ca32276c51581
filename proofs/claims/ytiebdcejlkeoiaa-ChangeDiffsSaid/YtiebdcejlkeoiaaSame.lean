/- Same (f33) says true of two rows that hold the same changes. -/
import Derived.Test.YtiebdcejlkeoiaaDiff
namespace Go.Proofs.Ytiebdcejlkeoiaa
open Go.RowKit
set_option linter.unusedSimpArgs false
set_option linter.unusedVariables false

theorem flatL_at (L : List Ch) (k j : Nat) (x : Ch) (hk : L[k]? = some x) (hj : j < 6) : (flatL L)[k * 6 + j]? = (ch6 x)[j]? := by
  induction L generalizing k with
  | nil => simp at hk
  | cons y L ih =>
    have hy : (ch6 y).length = 6 := rfl
    simp only [flatL, List.flatMap_cons]
    rcases k with _ | k
    · simp at hk; subst hk
      rw [List.getElem?_append_left (by omega)]; congr 1; omega
    · rw [List.getElem?_append_right (by omega)]
      have := ih k (by simpa using hk)
      rw [← this, hy]; simp only [flatL]; congr 1; omega
/-- A row of changes in block g, from its head on. -/
def RowIn (w : World) (g : Nat) (L : List Ch) : Prop := g < w.heap.size ∧ ∀ k j x, L[k]? = some x → j < 6 → w.cell? ⟨g, k * 6 + j, none⟩ = (ch6 x)[j]?
theorem RowIn.block {w w' : World} {g : Nat} {L : List Ch} (h : RowIn w g L) (hb : w'.heap[g]? = w.heap[g]?) (hs : w.heap.size ≤ w'.heap.size) : RowIn w' g L :=
  ⟨Nat.lt_of_lt_of_le h.1 hs, fun k j x hk hj => by rw [World.cell?_of_block (w := w) hb]; exact h.2 k j x hk hj⟩
theorem RowIn.below {w w' : World} {g : Nat} {L : List Ch} (h : RowIn w g L) (hb : Below w.heap.size w w') : RowIn w' g L := h.block (hb.block g h.1) hb.size
theorem RowIn.ld {w : World} {g k : Nat} {L : List Ch} {x : Ch} (h : RowIn w g L) (hk : L[k]? = some x) :
    (ldv 29 ⟨g, k * 6, none⟩).run Try.prog w = .ok (.agg #[.int .i64 x.page, .int .i64 x.slot, .bool x.before.set, .string x.before.data, .bool x.after.set, .string x.after.data]) w :=
  run_ld29 (x := x) (fun j hj => h.2 k j x hk hj)
theorem own_row {w : World} {base g cap n : Nat} {L : List Ch} (h : w.ownsRow base 29 6 (.slice (some ⟨g, 0, none⟩) n cap) L.length (flatL L)) : RowIn w g L := by
  refine ⟨(h.lt g rfl).2, fun k j x hk hj => ?_⟩
  have hv : ∃ v, (ch6 x)[j]? = some v := by
    simp only [ch6]
    rcases j with _ | _ | _ | _ | _ | _ | j <;> first | exact ⟨_, rfl⟩ | omega
  obtain ⟨v, hv⟩ := hv
  have := h.cells (g := g) rfl (k * 6 + j) v (by rw [flatL_at L k j x hk hj]; exact hv)
  rw [Addr.add_lit, Nat.zero_add] at this
  rw [hv]; exact this
/-- What an owned row looks like: its length, and where it lies if it holds something. -/
theorem own_form {w : World} {base : Nat} {v : Value} {L : List Ch} (h : w.ownsRow base 29 6 v L.length (flatL L)) : ∃ a cap, v = .slice a L.length cap ∧ L.length ≤ cap ∧ (0 < L.length → ∃ g, a = some ⟨g, 0, none⟩ ∧ base ≤ g ∧ RowIn w g L) := by
  have h' := h
  rcases h'.2 with ⟨rfl, h0⟩ | ⟨g, cap, cur, rfl, hb, _, hc, _⟩
  · exact ⟨none, 0, by rw [h0], by omega, fun h1 => by omega⟩
  · exact ⟨some ⟨g, 0, none⟩, cap, rfl, hc, fun _ => ⟨g, rfl, hb, own_row h⟩⟩

set_option maxHeartbeats 2000000 in
theorem same33 (a1 a2 : Option Addr) (c1 c2 : Nat) (L : List Ch) (w : World) (hL : L.length ≤ 16) (h1 : 0 < L.length → ∃ g, a1 = some ⟨g, 0, none⟩ ∧ RowIn w g L) (h2 : 0 < L.length → ∃ g, a2 = some ⟨g, 0, none⟩ ∧ RowIn w g L) :
    Calls Try.prog 33 #[.slice a1 L.length c1, .slice a2 L.length c2] w fun e w' => e = .returned (.bool true) ∧ Below w.heap.size w w' := by
  obtain ⟨n, hn⟩ : ∃ n, n = L.length := ⟨_, rfl⟩
  have HN := Hd.mk hn
  rw [← hn] at h1 h2 hL ⊢
  clear hn
  have H1 := Hd.mk h1
  have H2 := Hd.mk h2
  clear h1 h2
  go_enter Try.func33, Try.ntmps33
  go_wp2_with fail
  go_loopw [5] (fun v wr => ∃ k : Nat, k ≤ n ∧ v = .int .i64 (k : Int) ∧ Hd (Below w.heap.size w wr)) (fun v _ => n - (intOf v).toNat)
  case atStart => exact ⟨0, by omega, rfl, ⟨Below.refl _ _⟩⟩
  case round =>
    obtain ⟨k, hk, rfl, HB⟩ := hrel
    by_cases hlt : k < n
    · obtain ⟨g1, rfl, R1⟩ := H1.out (by omega)
      obtain ⟨g2, rfl, R2⟩ := H2.out (by omega)
      obtain ⟨x, hx⟩ : ∃ x, L[k]? = some x := ⟨_, List.getElem?_eq_getElem (by have := HN.out; omega)⟩
      have hw : ∀ W : World, Below w.heap.size w W → Hd (Below w.heap.size w W) ∧ (ldv 29 ⟨g1, k * 6, none⟩).run Try.prog W = .ok (.agg #[.int .i64 x.page, .int .i64 x.slot, .bool x.before.set, .string x.before.data, .bool x.after.set, .string x.after.data]) W ∧ (ldv 29 ⟨g2, k * 6, none⟩).run Try.prog W = .ok (.agg #[.int .i64 x.page, .int .i64 x.slot, .bool x.before.set, .string x.before.data, .bool x.after.set, .string x.after.data]) W :=
        fun W hW => ⟨⟨hW⟩, (R1.below hW).ld hx, (R2.below hW).ld hx⟩
      have HW := Hd.mk hw
      clear hw hx R1 R2
      have q1 : (0 : Int) ≤ k := by omega
      have q2 : (k : Int) < n := by omega
      go_wp2_with fail
      go_region_held3 (fun W => Hd (Below w.heap.size w W) ∧ (ldv 29 ⟨g1, k * 6, none⟩).run Try.prog W = .ok (.agg #[.int .i64 x.page, .int .i64 x.slot, .bool x.before.set, .string x.before.data, .bool x.after.set, .string x.after.data]) W ∧ (ldv 29 ⟨g2, k * 6, none⟩).run Try.prog W = .ok (.agg #[.int .i64 x.page, .int .i64 x.slot, .bool x.before.set, .string x.before.data, .bool x.after.set, .string x.after.data]) W)
        (first | exact HW.out _ HB.out | exact HW.out _ HB.out.drew) (fail)
      have HB2 := Hd.mk HB.out.drew
      go_wp2_with fail
      go_roundw
      case rel => exact ⟨k + 1, by omega, by go_num, HB2⟩
      case measure => simp [intOf]; omega
    · go_wp2_with fail
      go_ret
      exact ⟨rfl, HB.out⟩
end Go.Proofs.Ytiebdcejlkeoiaa
