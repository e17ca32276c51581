/- What the walk of a law keeps of its memory while it draws and calls: old memory as it was, the codes, and its own variables with what they hold. -/
import Derived.Test.YtcjmejokgoefkaaGreatDraw
namespace Go.Proofs.YtcjmejokgoefkaaGreat
open Go.RowKit
set_option linter.unusedSimpArgs false
set_option linter.unusedVariables false

theorem IsBytes.below' {w w' : World} {a : Option Addr} {n cap : Nat} (h : IsBytes w a n cap) (hb : Below w.heap.size w w') : IsBytes w' a n cap := by
  obtain ⟨h1, h2, h3⟩ := h
  refine ⟨h1, h2, fun j hj => ?_⟩
  obtain ⟨b, o, x, e1, e2, e3, e4⟩ := h3 j hj
  exact ⟨b, o, x, e1, Nat.lt_of_lt_of_le e2 hb.size, e3, by rw [World.cell?_of_block (w := w) (hb.block b e2)]; exact e4⟩
theorem Dr.toBelow {c B : Nat} {u v : World} (h : Dr c u v) (hc : B ≤ c) (hB : B ≤ u.heap.size) : Below B u v :=
  ⟨h.os, h.tape, h.output, h.size, fun k hk => h.block k (by omega) (by omega)⟩

abbrev Ents := List (Nat × Array Value × TypeId)
structure Sk (c B : Nat) (w0 : World) (l : Ents) (w : World) : Prop where
  cds : Cds w c
  below : Below B w0 w
  hB : B ≤ w0.heap.size
  hc : B ≤ c
  mem : ∀ x ∈ l, (x.1 ≠ c ∧ B ≤ x.1) ∧ w.heap[x.1]? = some (.cells x.2.1 x.2.2 (0, 0))

section
variable {c B : Nat} {w0 w w' : World} {l : Ents}
theorem Sk.lt (h : Sk c B w0 l w) {x : Nat × Array Value × TypeId} (hx : x ∈ l) : x.1 < w.heap.size := (Array.getElem?_eq_some_iff.1 (h.mem x hx).2).1
theorem Sk.hBw (h : Sk c B w0 l w) : B ≤ w.heap.size := Nat.le_trans h.hB h.below.size
theorem Sk.dr (h : Sk c B w0 l w) (hd : Dr c w w') : Sk c B w0 l w' :=
  ⟨hd.cds h.cds, h.below.trans (hd.toBelow h.hc h.hBw), h.hB, h.hc, fun x hx => ⟨(h.mem x hx).1, by rw [hd.block x.1 (h.lt hx) (h.mem x hx).1.1]; exact (h.mem x hx).2⟩⟩
theorem Sk.step (h : Sk c B w0 l w) (hb : Below w.heap.size w w') : Sk c B w0 l w' := h.dr (Dr.of_below hb)
theorem Sk.cons (h : Sk c B w0 l w) {b : Nat} {a : Array Value} {t : TypeId} (hb : w.heap[b]? = some (.cells a t (0, 0))) (hne : b ≠ c) (hBb : B ≤ b) : Sk c B w0 ((b, a, t) :: l) w :=
  ⟨h.cds, h.below, h.hB, h.hc, fun x hx => by
    rcases List.mem_cons.1 hx with rfl | hx
    · exact ⟨⟨hne, hBb⟩, hb⟩
    · exact h.mem x hx⟩
theorem Sk.alloc (h : Sk c B w0 l w) (a : Array Value) (t : TypeId) (g : Nat) (hg : g = w.heap.size) : Sk c B w0 ((g, a, t) :: l) (w.alloc (.cells a t)) := by
  subst hg
  exact (h.step ((Below.refl _ _).alloc (Nat.le_refl _) _)).cons (heap_alloc_new w _) (by have := h.cds.lt; omega) h.hBw
theorem Sk.sub (h : Sk c B w0 l w) {l' : Ents} (hs : ∀ x ∈ l', x ∈ l) : Sk c B w0 l' w := ⟨h.cds, h.below, h.hB, h.hc, fun x hx => h.mem x (hs x hx)⟩
theorem Sk.at (h : Sk c B w0 l w) (g : Nat) (arr : Array Value) (t : TypeId) (hm : (g, arr, t) ∈ l) : rowAt w g = arr ∧ live w g = true ∧ g ≠ w.heap.size ∧ g ≠ w.heap.size + 1 := by
  obtain ⟨h1, h2, _, _, h5⟩ := blk (h.mem _ hm).2
  exact ⟨h1, h2, by omega, by omega⟩
theorem Sk.cellsAt (h : Sk c B w0 l w) (g : Nat) (arr : Array Value) (t : TypeId) (hm : (g, arr, t) ∈ l) : (∀ o, w.cell? ⟨g, o, none⟩ = arr[o]?) ∧ (∀ o, w.frozen? ⟨g, o, none⟩ = false) :=
  ⟨(blk (h.mem _ hm).2).2.2.1, (blk (h.mem _ hm).2).2.2.2.1⟩
/-- One block, younger than the codes, has turned, and nothing else. -/
theorem Sk.turn (h : Sk c B w0 l w) {g : Nat} {a : Array Value} {t : TypeId} (hg : w'.heap[g]? = some (.cells a t (0, 0))) (hcg : c < g) (hs : w'.heap.size = w.heap.size) (ho : w'.os = w.os) (ht : w'.tape = w.tape) (hu : w'.output = w.output)
    (hk : ∀ k, k ≠ g → w'.heap[k]? = w.heap[k]?) {l' : Ents} (hl : ∀ x ∈ l', x ∈ l ∧ x.1 ≠ g) : Sk c B w0 ((g, a, t) :: l') w' := by
  have hc := h.hc
  refine ⟨h.cds.of_block fun k hk' => hk k (by omega), h.below.trans ⟨ho, ht, hu, by omega, fun k hk' => hk k (by omega)⟩, h.hB, h.hc, fun x hx => ?_⟩
  rcases List.mem_cons.1 hx with rfl | hx
  · exact ⟨⟨by dsimp only; omega, by dsimp only; omega⟩, hg⟩
  · exact ⟨(h.mem x (hl x hx).1).1, by rw [hk x.1 (hl x hx).2]; exact (h.mem x (hl x hx).1).2⟩
theorem Sk.setCell (h : Sk c B w0 l w) (g : Nat) (a : Array Value) (t : TypeId) (hm : (g, a, t) ∈ l) (hcg : c < g) (i : Nat) (v : Value) {l' : Ents} (hl : ∀ x ∈ l', x ∈ l ∧ x.1 ≠ g) : Sk c B w0 ((g, a.setIfInBounds i v, t) :: l') (w.setCell ⟨g, i, none⟩ v) :=
  h.turn (heap_setCell_same w g i a t v (h.mem _ hm).2) hcg (by simp) rfl rfl rfl (fun k hk => Below.heap_setCell _ _ _ _ hk) hl
theorem Sk.setRow (h : Sk c B w0 l w) (g : Nat) (a a' : Array Value) (t : TypeId) (hm : (g, a, t) ∈ l) (hcg : c < g) {l' : Ents} (hl : ∀ x ∈ l', x ∈ l ∧ x.1 ≠ g) : Sk c B w0 ((g, a', t) :: l') (w.setRow g a') :=
  h.turn (setRow_heap w g a a' t (0, 0) (h.mem _ hm).2) hcg (by simp) rfl rfl rfl (fun k hk => setRow_other _ _ _ _ hk) hl
/-- The same before there are codes. -/
structure Pre (B : Nat) (w0 : World) (l : Ents) (w : World) : Prop where
  below : Below B w0 w
  hB : B ≤ w0.heap.size
  mem : ∀ x ∈ l, B ≤ x.1 ∧ w.heap[x.1]? = some (.cells x.2.1 x.2.2 (0, 0))
theorem Pre.nil (w : World) : Pre w.heap.size w [] w := ⟨Below.refl _ _, Nat.le_refl _, fun _ h => by cases h⟩
theorem Pre.lt (h : Pre B w0 l w) {x : Nat × Array Value × TypeId} (hx : x ∈ l) : x.1 < w.heap.size := (Array.getElem?_eq_some_iff.1 (h.mem x hx).2).1
theorem Pre.hBw (h : Pre B w0 l w) : B ≤ w.heap.size := Nat.le_trans h.hB h.below.size
theorem Pre.step (h : Pre B w0 l w) (hb : Below w.heap.size w w') : Pre B w0 l w' :=
  ⟨h.below.trans (hb.mono h.hBw), h.hB, fun x hx => ⟨(h.mem x hx).1, by rw [hb.block x.1 (h.lt hx)]; exact (h.mem x hx).2⟩⟩
theorem Pre.alloc (h : Pre B w0 l w) (a : Array Value) (t : TypeId) (g : Nat) (hg : g = w.heap.size) : Pre B w0 ((g, a, t) :: l) (w.alloc (.cells a t)) := by
  subst hg
  have h1 := h.step ((Below.refl _ _).alloc (Nat.le_refl _) (.cells a t))
  refine ⟨h1.below, h1.hB, fun x hx => ?_⟩
  rcases List.mem_cons.1 hx with rfl | hx
  · exact ⟨h.hBw, heap_alloc_new w _⟩
  · exact h1.mem x hx
theorem Pre.sk (h : Pre B w0 l w) (hb : Below w.heap.size w w') (hC : Cds w' c) (hc : w.heap.size ≤ c) : Sk c B w0 l w' :=
  ⟨hC, (h.step hb).below, h.hB, Nat.le_trans h.hBw hc, fun x hx => ⟨⟨by have := h.lt hx; omega, (h.mem x hx).1⟩, ((h.step hb).mem x hx).2⟩⟩
end
end Go.Proofs.YtcjmejokgoefkaaGreat
