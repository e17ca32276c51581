/- The walk of the law BackgroundFair: it returns true and leaves old memory as it was. -/
import Derived.Test.YtiebdcejlkeoiaaShares
import Derived.Deep.DeepCutAuto
import Derived.IntWalk
namespace Go.Proofs.Ytiebdcejlkeoiaa
open Go.RowKit
set_option linter.unusedSimpArgs false
set_option linter.unusedVariables false

/-! ### a block, from world to world -/
section
variable {W W' : World} {b c g : Nat} {x : Obj}
theorem hp_new (o : Obj) (h : b = W.heap.size) : (W.alloc o).heap[b]? = some o := by subst h; exact heap_alloc_new W o
theorem hp_lt (h : W.heap[b]? = some x) : b < W.heap.size := (Array.getElem?_eq_some_iff.1 h).1
theorem hp_ne0 (h : W.heap[b]? = some x) : b ≠ W.heap.size ∧ W.heap.size ≠ b := by have := hp_lt h; omega
theorem hp_ne1 (h : W.heap[b]? = some x) : b ≠ W.heap.size + 1 ∧ W.heap.size + 1 ≠ b := by have := hp_lt h; omega
theorem hp_ne {y z : Array Value} (h : W.heap[b]? = some (.cells y 64 (0, 0))) (k : W.heap[c]? = some (.cells z 70 (0, 0))) : b ≠ c ∧ c ≠ b := by
  have : b ≠ c := by
    rintro rfl
    rw [h] at k
    simp at k
  exact ⟨this, this.symm⟩
theorem hp_old (o : Obj) (h : W.heap[b]? = some x) : (W.alloc o).heap[b]? = some x := by rw [heap_alloc_if, if_neg (by have := hp_lt h; omega)]; exact h
theorem hp_drew (h : W.heap[b]? = some x) : W.drew.heap[b]? = some x := h
theorem hp_below (hb : Below W.heap.size W W') (h : W.heap[b]? = some x) : W'.heap[b]? = some x := (hb.block b (hp_lt h)).trans h
theorem hp_dr (hd : Dr c W W') (hne : b ≠ c) (h : W.heap[b]? = some x) : W'.heap[b]? = some x := (hd.block b (hp_lt h) hne).trans h
theorem hp_grown {row : Option Nat} (hg : W.grownBy W' row) (hr : row ≠ some b) (h : W.heap[b]? = some x) : W'.heap[b]? = some x := (hg.block b (hp_lt h) (fun e => hr e.symm)).trans h
theorem hp_row {a : Array Value} {t : TypeId} (cs : Array Value) (h : W.heap[b]? = some (.cells a t (0, 0))) : (W.setRow b cs).heap[b]? = some (.cells cs t (0, 0)) := setRow_heap W b a cs t (0, 0) h
theorem hp_row' (cs : Array Value) (hne : b ≠ g) (h : W.heap[b]? = some x) : (W.setRow g cs).heap[b]? = some x := (setRow_other _ _ _ _ hne).trans h
theorem hp_cell' (i : Nat) (v : Value) (hne : b ≠ g) (h : W.heap[b]? = some x) : (W.setCell ⟨g, i, none⟩ v).heap[b]? = some x := (Below.heap_setCell _ _ _ _ hne).trans h
theorem hp_two (y z u v : Value) {t : TypeId} (h : W.heap[b]? = some (.cells #[u, v] t (0, 0))) : ((W.setCell ⟨b, 0, none⟩ y).setCell ⟨b, 1, none⟩ z).heap[b]? = some (.cells #[y, z] t (0, 0)) := by
  have h1 := heap_setCell_same W b 0 _ t y h
  exact heap_setCell_same _ b 1 _ t z h1
theorem wk_alloc {a : Option Addr} {l : List Wk} (o : Obj) (h : WkS W a l) : WkS (W.alloc o) a l := h.below ((Below.refl _ _).alloc (Nat.le_refl _) _)
end
theorem Sk.rowOut {c B : Nat} {w0 w : World} {l : Ents} (h : Sk c B w0 l w) (g : Nat) (cs : Array Value) (hg : c < g) (hl : ∀ x ∈ l, x.1 ≠ g) : Sk c B w0 l (w.setRow g cs) :=
  ⟨h.cds.of_block fun k hk => setRow_other _ _ _ _ (by omega), h.below.trans (below_setRow (Below.refl _ _) (by have := h.hc; omega) _), h.hB, h.hc, fun x hx => ⟨(h.mem x hx).1, (setRow_other _ _ _ _ (hl x hx)).trans (h.mem x hx).2⟩⟩
theorem Sk.cellOut {c B : Nat} {w0 w : World} {l : Ents} (h : Sk c B w0 l w) (g i : Nat) (v : Value) (hg : c < g) (hl : ∀ x ∈ l, x.1 ≠ g) : Sk c B w0 l (w.setCell ⟨g, i, none⟩ v) :=
  ⟨h.cds.of_block fun k hk => Below.heap_setCell _ _ _ _ (by dsimp only; omega), h.below.trans (below_cell (Below.refl _ _) _ _ _ (by have := h.hc; omega)), h.hB, h.hc, fun x hx => ⟨(h.mem x hx).1, (Below.heap_setCell _ _ _ _ (hl x hx)).trans (h.mem x hx).2⟩⟩
theorem keep_have {p q : Prop} (h : p) (k : p → q) : q := k h
theorem keep_two {p r q : Prop} (h : p ∧ r) (k : p → r → q) : q := k h.1 h.2
theorem Sk.rowO {c B g : Nat} {w0 w : World} {l : Ents} (cs : Array Value) (hg : c < g) (hl : ∀ x ∈ l, x.1 ≠ g) (h : Sk c B w0 l w) : Sk c B w0 l (w.setRow g cs) := h.rowOut g cs hg hl
theorem Sk.cellO {c B g : Nat} {w0 w : World} {l : Ents} (i : Nat) (v : Value) (hg : c < g) (hl : ∀ x ∈ l, x.1 ≠ g) (h : Sk c B w0 l w) : Sk c B w0 l (w.setCell ⟨g, i, none⟩ v) := h.cellOut g i v hg hl
theorem own_ne {w : World} {base b n : Nat} {v : Value} {xs : List Value} (h : w.ownsRow base 70 2 v n xs) (hb : b < base ∨ w.heap.size ≤ b) : v.ownBlock ≠ some b := fun e => by have h1 := (h.lt b e).1; have h2 := (h.lt b e).2; omega
theorem next38n (a : Option Addr) (cap n : Nat) (l : List Wk) (q : Qu) (w : World) (hn : n = l.length) (hl : l.length ≤ 100) (hW : WkS w a l) :
    Calls Try.prog 38 #[.agg (quA q), .slice a n cap] w (NextPost (nextF q l) w) := by subst hn; exact next38 a cap l q w hl hW
theorem hasK_last (l : List Wk) (k : Int) (z : Int) : hasK (l ++ [(k, z)]) k = true := by simp [hasK]

theorem wpAny_bits {P : Program} {md : Region.Mode} {ops : Array Oper} {Q : Exit → Act → World → Prop} {ι : Type} (L : ι → Array Bool) (R : ι → List Nat) (N : ι → Nat → ι) (f : ι → Nat) (V E : ι → Prop) (I : ι → Act → World → Prop)
    (hE : ∀ s, V s → ¬ E s → R s ≠ [])
    (hr : ∀ s, V s → ¬ E s → Region.ready md ops (L s) = R s)
    (hL : ∀ s i, V s → ¬ E s → i ∈ R s → (L s).setIfInBounds i true = L (N s i) ∧ V (N s i) ∧ f (N s i) + 1 = f s)
    (hstep : ∀ s i a w, V s → ¬ E s → i ∈ R s → I s a w → wpOp P ops Q i (I (N s i)) a w)
    (hend : ∀ s a w, V s → E s → I s a w → wpAny P md ops Q (f s) (L s) a w) :
    ∀ n s a w, f s = n → V s → I s a w → wpAny P md ops Q n (L s) a w := by
  intro n
  induction n with
  | zero =>
    intro s a w hn hv hI
    by_cases he : E s
    · have := hend s a w hv he hI; rw [hn] at this; exact this
    · obtain ⟨i, hi⟩ := List.exists_mem_of_ne_nil _ (hE s hv he)
      have := (hL s i hv he hi).2.2
      omega
  | succ n ih =>
    intro s a w hn hv hI
    by_cases he : E s
    · have := hend s a w hv he hI; rw [hn] at this; exact this
    · refine wpAny_all (hr s hv he) (hE s hv he) fun i hi => ?_
      obtain ⟨h1, h2, h3⟩ := hL s i hv he hi
      rw [h1]
      exact wpOp_mono (fun a' w' h => ih (N s i) a' w' (by omega) h2 h) (hstep s i a w hv he hi hI)

theorem wpAny_take2 {P : Program} {md : Region.Mode} {ops : Array Oper} {Q : Exit → Act → World → Prop} {i : Nat} {oi : Oper} {v : Value} {fuel : Nat} {listed listed' : Array Bool} {a : Act} {w : World} (d : Option Tmp) (hi : ops[i]? = some oi)
    (hs : Region.noSelect ops = true) (hf : Region.free md ops listed i = true) (hr : (Region.ready md ops listed).contains i = true)
    (hQ : ∀ c a w, Q (.panic c) (a.put oi.dst v) w → Q (.panic c) a w) (hd : oi.dst = d) (hl : listed.setIfInBounds i true = listed') (hy : Yields P ops oi v a)
    (h : wpAny P md ops Q fuel listed' (a.put d v) w) : wpAny P md ops Q (fuel + 1) listed a w := by
  subst hd; subst hl
  exact wpAny_take hi hs hf hr hQ hy h
theorem wpAny_name {P : Program} {md : Region.Mode} {ops : Array Oper} {Q : Exit → Act → World → Prop} {fuel : Nat} {listed : Array Bool} {a : Act} {w : World} (listed' : Array Bool) (hl : listed = listed')
    (h : ∀ a0, a0 = a → wpAny P md ops Q fuel listed' a0 w) : wpAny P md ops Q fuel listed a w := by
  subst hl
  exact h a rfl

/-- What is done of the region: the load, the offers, the new one, the append, the call, the two variables. -/
structure FS where
  b0 : Bool
  b2 : Bool
  b6 : Bool
  b7 : Bool
  b8 : Bool
  bx : Bool
  bw : Bool
  deriving DecidableEq
def FS.L (s : FS) : Array Bool := #[s.b0, true, s.b2, true, true, true, s.b6, s.b7, s.b8, false, false, false, false, false, s.bx, s.bw, false, false, false, false]
def FS.can (s : FS) : Nat → Bool
  | 0 => !s.b0
  | 2 => !s.b2
  | 6 => !s.b6
  | 7 => s.b2 && s.b6 && !s.b7
  | 8 => s.b0 && s.b7 && !s.b8
  | 14 => !s.bx
  | 15 => !s.bw
  | _ => false
def FS.R (s : FS) : List Nat := [0, 2, 6, 7, 8, 14, 15].filter s.can
def FS.N (s : FS) : Nat → FS
  | 0 => { s with b0 := true }
  | 2 => { s with b2 := true }
  | 6 => { s with b6 := true }
  | 7 => { s with b7 := true }
  | 8 => { s with b8 := true }
  | 14 => { s with bx := true }
  | 15 => { s with bw := true }
  | _ => s
def FS.f (s : FS) : Nat := 9 + ((!s.b0).toNat + (!s.b2).toNat + (!s.b6).toNat + (!s.b7).toNat + (!s.b8).toNat + (!s.bx).toNat + (!s.bw).toNat)
def FS.V (s : FS) : Prop := (!s.b7 || (s.b2 && s.b6)) = true ∧ (!s.b8 || (s.b0 && s.b7)) = true
def FS.E (s : FS) : Prop := s.b8 = true
theorem FS.hE (s : FS) (hv : s.V) (he : ¬ s.E) : s.R ≠ [] := by
  rcases s with ⟨b0, b2, b6, b7, b8, bx, bw⟩
  revert hv he
  unfold FS.V FS.E
  cases b0 <;> cases b2 <;> cases b6 <;> cases b7 <;> cases b8 <;> cases bx <;> cases bw <;> decide
theorem FS.mem {s : FS} {i : Nat} (h : i ∈ s.R) : i ∈ [0, 2, 6, 7, 8, 14, 15] ∧ s.can i = true := by
  simpa [FS.R, List.mem_filter] using h
theorem FS.hL (s : FS) (i : Nat) (hv : s.V) (he : ¬ s.E) (hi : i ∈ s.R) : s.L.setIfInBounds i true = (s.N i).L ∧ (s.N i).V ∧ (s.N i).f + 1 = s.f := by
  obtain ⟨h1, h2⟩ := FS.mem hi
  rcases s with ⟨b0, b2, b6, b7, b8, bx, bw⟩
  unfold FS.V at hv ⊢
  unfold FS.E at he
  simp only [List.mem_cons, List.mem_nil_iff, or_false] at h1
  revert hv he h2
  rcases h1 with rfl | rfl | rfl | rfl | rfl | rfl | rfl <;> cases b0 <;> cases b2 <;> cases b6 <;> cases b7 <;> cases b8 <;> cases bx <;> cases bw <;> decide


theorem wpAny_num {P : Program} {md : Region.Mode} {ops : Array Oper} {Q : Exit → Act → World → Prop} {m : Nat} {listed : Array Bool} {a : Act} {w : World} (n : Nat) (listed' : Array Bool) (hn : m = n) (hl : listed = listed')
    (h : wpAny P md ops Q n listed' a w) : wpAny P md ops Q m listed a w := by
  subst hl; subst hn
  exact h
def FS.L2 (s : FS) : Array Bool := #[true, true, true, true, true, true, true, true, true, true, true, true, true, true, s.bx, s.bw, false, false, false, false]
def FS.R2 (s : FS) : List Nat := [14, 15].filter s.can
def FS.f2 (s : FS) : Nat := 4 + ((!s.bx).toNat + (!s.bw).toNat)
def FS.V2 (s : FS) : Prop := (s.b0 && s.b2 && s.b6 && s.b7 && s.b8) = true
def FS.E2 (s : FS) : Prop := (s.bx && s.bw) = true
theorem FS.hE2 (s : FS) (hv : s.V2) (he : ¬ s.E2) : s.R2 ≠ [] := by
  rcases s with ⟨b0, b2, b6, b7, b8, bx, bw⟩
  revert hv he
  unfold FS.V2 FS.E2
  cases b0 <;> cases b2 <;> cases b6 <;> cases b7 <;> cases b8 <;> cases bx <;> cases bw <;> decide
theorem FS.mem2 {s : FS} {i : Nat} (h : i ∈ s.R2) : i ∈ [14, 15] ∧ s.can i = true := by
  simpa [FS.R2, List.mem_filter] using h
theorem FS.hL2 (s : FS) (i : Nat) (hv : s.V2) (he : ¬ s.E2) (hi : i ∈ s.R2) : s.L2.setIfInBounds i true = (s.N i).L2 ∧ (s.N i).V2 ∧ (s.N i).f2 + 1 = s.f2 := by
  obtain ⟨h1, h2⟩ := FS.mem2 hi
  rcases s with ⟨b0, b2, b6, b7, b8, bx, bw⟩
  unfold FS.V2 at hv ⊢
  unfold FS.E2 at he
  simp only [List.mem_cons, List.mem_nil_iff, or_false] at h1
  revert hv he h2
  rcases h1 with rfl | rfl <;> cases b0 <;> cases b2 <;> cases b6 <;> cases b7 <;> cases b8 <;> cases bx <;> cases bw <;> decide

/-! What stands in the world. -/
structure FW (c B k : Nat) (w0 : World) (l : Ents) (q : Qu) (s : FS) (v13 v14 v55 v57 v61 v62 v63 : Value) (L : List Wk) (lo hi gb bx bw gs cap : Nat) (w : World) : Prop where
  sk : Sk c B w0 l w
  len : L.length ≤ 8
  hhi : s.b2 = true → c < lo ∧ (∀ z ∈ l, z.1 < lo) ∧ lo ≤ hi ∧ hi ≤ w.heap.size
  p0 : s.b0 = true → v55 = .agg (quA q)
  p2 : s.b2 = true → s.b7 = false → w.ownsRow lo 70 2 v57 L.length (flatW L) ∧ (∀ b, v57.ownBlock = some b → lo ≤ b ∧ b < hi)
  p6 : s.b6 = true → v61 = .slice (some ⟨gb, 0, none⟩) 1 1 ∧ c < gb ∧ (s.b7 = false → w.heap[gb]? = some (.cells #[.int .i64 ((k : Int) + 1), .int .i64 0] 70 (0, 0)))
  p7 : s.b7 = true → v62 = .slice (some ⟨gs, 0, none⟩) (L.length + 1) cap ∧ WkS w (some ⟨gs, 0, none⟩) (L ++ [((k : Int) + 1, 0)])
  p8 : s.b8 = true → v63 = .tuple #[.agg (quA (nextF q (L ++ [((k : Int) + 1, 0)])).1), .agg #[.int .i64 (nextF q (L ++ [((k : Int) + 1, 0)])).2.1.1, .int .i64 (nextF q (L ++ [((k : Int) + 1, 0)])).2.1.2], .bool (nextF q (L ++ [((k : Int) + 1, 0)])).2.2.1, .int .i64 (nextF q (L ++ [((k : Int) + 1, 0)])).2.2.2]
  px : s.bx = true → v13 = .pointer (some ⟨bx, 0, none⟩) ∧ w.heap[bx]? = some (.cells (quA zQ) 64 (0, 0)) ∧ c < bx ∧ (∀ z ∈ l, z.1 ≠ bx) ∧ (s.b2 = true → bx < lo ∨ hi ≤ bx)
  pw : s.bw = true → v14 = .pointer (some ⟨bw, 0, none⟩) ∧ w.heap[bw]? = some (.cells #[.int .i64 0, .int .i64 0] 70 (0, 0)) ∧ c < bw ∧ (∀ z ∈ l, z.1 ≠ bw) ∧ (s.b2 = true → bw < lo ∨ hi ≤ bw)
section
variable {c B k : Nat} {w0 : World} {l : Ents} {q : Qu} {s : FS} {v13 v14 v55 v57 v61 v62 v63 : Value} {L : List Wk} {lo hi gb bx bw gs cap : Nat} {w w' : World}
theorem FW.s0 (h : FW c B k w0 l q s v13 v14 v55 v57 v61 v62 v63 L lo hi gb bx bw gs cap w) : FW c B k w0 l q (s.N 0) v13 v14 (.agg (quA q)) v57 v61 v62 v63 L lo hi gb bx bw gs cap w :=
  ⟨h.sk, h.len, h.hhi, fun _ => rfl, h.p2, h.p6, h.p7, h.p8, h.px, h.pw⟩
theorem FW.s2 (h : FW c B k w0 l q s v13 v14 v55 v57 v61 v62 v63 L lo hi gb bx bw gs cap w) (hV : s.V) (hc : s.can 2 = true) (v : Value) (L' : List Wk) (hl : L'.length ≤ 8) (hown : w'.ownsRow w.heap.size 70 2 v L'.length (flatW L')) (hd : Dr c w w') :
    FW c B k w0 l q (s.N 2) v13 v14 v55 v v61 v62 v63 L' w.heap.size w'.heap.size gb bx bw gs cap w' := by
  have hb2 : s.b2 = false := by simpa [FS.can] using hc
  have hb7 : s.b7 = false := by have := hV.1; rw [hb2] at this; simpa using this
  have hb8 : s.b8 = false := by have := hV.2; rw [hb7] at this; simpa using this
  refine ⟨h.sk.dr hd, hl, fun _ => ⟨h.sk.cds.lt, fun z hz => h.sk.lt hz, hd.size, Nat.le_refl _⟩, h.p0, fun _ _ => ⟨hown, fun b hb => hown.lt b hb⟩, fun h6 => ?_, fun h7 => ?_, fun h8 => ?_, fun h9 => ?_, fun h9 => ?_⟩
  · obtain ⟨x1, x2, x3⟩ := h.p6 h6
    exact ⟨x1, x2, fun h7 => hp_dr hd (by omega) (x3 h7)⟩
  · have h7 : s.b7 = true := h7
    rw [hb7] at h7; simp at h7
  · have h8 : s.b8 = true := h8
    rw [hb8] at h8; simp at h8
  · obtain ⟨x1, x2, x3, x4, x5⟩ := h.px h9
    exact ⟨x1, hp_dr hd (by omega) x2, x3, x4, fun _ => .inl (hp_lt x2)⟩
  · obtain ⟨x1, x2, x3, x4, x5⟩ := h.pw h9
    exact ⟨x1, hp_dr hd (by omega) x2, x3, x4, fun _ => .inl (hp_lt x2)⟩
theorem FW.s6 (h : FW c B k w0 l q s v13 v14 v55 v57 v61 v62 v63 L lo hi gb bx bw gs cap w) (hV : s.V) (hc : s.can 6 = true) :
    FW c B k w0 l q (s.N 6) v13 v14 v55 v57 (.slice (some ⟨w.heap.size, 0, none⟩) 1 1) v62 v63 L lo hi w.heap.size bx bw gs cap (w.alloc (.cells #[.int .i64 ((k : Int) + 1), .int .i64 0] 70)) := by
  have hb6 : s.b6 = false := by simpa [FS.can] using hc
  have hb7 : s.b7 = false := by have := hV.1; rw [hb6] at this; simpa using this
  have hsz : (w.alloc (.cells #[.int .i64 ((k : Int) + 1), .int .i64 0] 70)).heap.size = w.heap.size + 1 := by simp
  refine ⟨h.sk.dr (Dr.alloc _ _ _), h.len, fun h2 => ?_, h.p0, fun h2 h7 => ⟨(h.p2 h2 h7).1.alloc _, (h.p2 h2 h7).2⟩, fun _ => ⟨rfl, h.sk.cds.lt, fun _ => heap_alloc_new w _⟩, fun h7 => ?_, h.p8, fun h9 => ?_, fun h9 => ?_⟩
  · obtain ⟨x1, x2, x3, x4⟩ := h.hhi h2
    exact ⟨x1, x2, x3, by omega⟩
  · have h7 : s.b7 = true := h7
    rw [hb7] at h7; simp at h7
  · obtain ⟨x1, x2, x3, x4, x5⟩ := h.px h9
    exact ⟨x1, hp_old _ x2, x3, x4, x5⟩
  · obtain ⟨x1, x2, x3, x4, x5⟩ := h.pw h9
    exact ⟨x1, hp_old _ x2, x3, x4, x5⟩
theorem FW.s7 (h : FW c B k w0 l q s v13 v14 v55 v57 v61 v62 v63 L lo hi gb bx bw gs cap w) (hV : s.V) (hc : s.can 7 = true) (g cap' : Nat)
    (hown : w'.ownsRow lo 70 2 (.slice (some ⟨g, 0, none⟩) (L.length + 1) cap') (L.length + 1) (flatW L ++ [.int .i64 ((k : Int) + 1), .int .i64 0])) (hg : w.grownBy w' v57.ownBlock) :
    FW c B k w0 l q (s.N 7) v13 v14 v55 v57 v61 (.slice (some ⟨g, 0, none⟩) (L.length + 1) cap') v63 L lo hi gb bx bw g cap' w' := by
  have hb : s.b2 = true ∧ s.b6 = true ∧ s.b7 = false := by simpa [FS.can, and_assoc] using hc
  have hb8 : s.b8 = false := by have := hV.2; rw [hb.2.2] at this; simpa using this
  obtain ⟨o1, o2⟩ := h.p2 hb.1 hb.2.2
  obtain ⟨y1, y2, y3, y4⟩ := h.hhi hb.1
  have hs := hg.size
  refine ⟨h.sk.grown hg fun j hj => ?_, h.len, fun h2 => ⟨y1, y2, y3, by omega⟩, h.p0, fun _ h7 => ?_, fun h6 => ⟨(h.p6 h6).1, (h.p6 h6).2.1, fun h7 => ?_⟩, fun _ => ⟨rfl, own_wks (l := L ++ [((k : Int) + 1, 0)]) (n := L.length + 1) (cap := cap') (base := lo) ?_⟩, fun h8 => ?_, fun h9 => ?_, fun h9 => ?_⟩
  · have := (o2 j hj).1
    exact ⟨by omega, fun z hz => by have := y2 z hz; omega⟩
  · exact absurd (show true = false from h7) (by simp)
  · exact absurd (show true = false from h7) (by simp)
  · rw [flatW_snoc, List.length_append]; exact hown
  · have h8 : s.b8 = true := h8
    rw [hb8] at h8; simp at h8
  · obtain ⟨x1, x2, x3, x4, x5⟩ := h.px h9
    exact ⟨x1, hp_grown hg (fun e => by have := o2 _ e; have := x5 hb.1; omega) x2, x3, x4, x5⟩
  · obtain ⟨x1, x2, x3, x4, x5⟩ := h.pw h9
    exact ⟨x1, hp_grown hg (fun e => by have := o2 _ e; have := x5 hb.1; omega) x2, x3, x4, x5⟩
theorem FW.s8 (h : FW c B k w0 l q s v13 v14 v55 v57 v61 v62 v63 L lo hi gb bx bw gs cap w) (hc : s.can 8 = true) (hb : Below w.heap.size w w') :
    FW c B k w0 l q (s.N 8) v13 v14 v55 v57 v61 v62 (.tuple #[.agg (quA (nextF q (L ++ [((k : Int) + 1, 0)])).1), .agg #[.int .i64 (nextF q (L ++ [((k : Int) + 1, 0)])).2.1.1, .int .i64 (nextF q (L ++ [((k : Int) + 1, 0)])).2.1.2], .bool (nextF q (L ++ [((k : Int) + 1, 0)])).2.2.1, .int .i64 (nextF q (L ++ [((k : Int) + 1, 0)])).2.2.2]) L lo hi gb bx bw gs cap w' := by
  have hb7 : s.b7 = true := by have : (s.b0 = true ∧ s.b7 = true) ∧ s.b8 = false := by simpa [FS.can] using hc
                               exact this.1.2
  have hs := hb.size
  refine ⟨h.sk.step hb, h.len, fun h2 => ?_, h.p0, fun _ h7 => ?_, fun h6 => ⟨(h.p6 h6).1, (h.p6 h6).2.1, fun h7 => ?_⟩, fun h7 => ⟨(h.p7 h7).1, (h.p7 h7).2.below hb⟩, fun _ => rfl, fun h9 => ?_, fun h9 => ?_⟩
  · obtain ⟨x1, x2, x3, x4⟩ := h.hhi h2
    exact ⟨x1, x2, x3, by omega⟩
  · have h7 : s.b7 = false := h7
    rw [hb7] at h7; simp at h7
  · have h7 : s.b7 = false := h7
    rw [hb7] at h7; simp at h7
  · obtain ⟨x1, x2, x3, x4, x5⟩ := h.px h9
    exact ⟨x1, hp_below hb x2, x3, x4, x5⟩
  · obtain ⟨x1, x2, x3, x4, x5⟩ := h.pw h9
    exact ⟨x1, hp_below hb x2, x3, x4, x5⟩
theorem FW.sx (h : FW c B k w0 l q s v13 v14 v55 v57 v61 v62 v63 L lo hi gb bx bw gs cap w) :
    FW c B k w0 l q (s.N 14) (.pointer (some ⟨w.heap.size, 0, none⟩)) v14 v55 v57 v61 v62 v63 L lo hi gb w.heap.size bw gs cap (w.alloc (.cells (quA zQ) 64)) := by
  have hsz : (w.alloc (.cells (quA zQ) 64)).heap.size = w.heap.size + 1 := by simp
  refine ⟨h.sk.dr (Dr.alloc _ _ _), h.len, fun h2 => ?_, h.p0, fun h2 h7 => ⟨(h.p2 h2 h7).1.alloc _, (h.p2 h2 h7).2⟩, fun h6 => ⟨(h.p6 h6).1, (h.p6 h6).2.1, fun h7 => hp_old _ ((h.p6 h6).2.2 h7)⟩, fun h7 => ⟨(h.p7 h7).1, wk_alloc _ (h.p7 h7).2⟩, h.p8, fun _ => ⟨rfl, heap_alloc_new w _, h.sk.cds.lt, fun z hz => by have := h.sk.lt hz; omega, fun h2 => .inr (h.hhi h2).2.2.2⟩, fun h9 => ?_⟩
  · obtain ⟨x1, x2, x3, x4⟩ := h.hhi h2
    exact ⟨x1, x2, x3, by omega⟩
  · obtain ⟨x1, x2, x3, x4, x5⟩ := h.pw h9
    exact ⟨x1, hp_old _ x2, x3, x4, x5⟩
theorem FW.sw (h : FW c B k w0 l q s v13 v14 v55 v57 v61 v62 v63 L lo hi gb bx bw gs cap w) :
    FW c B k w0 l q (s.N 15) v13 (.pointer (some ⟨w.heap.size, 0, none⟩)) v55 v57 v61 v62 v63 L lo hi gb bx w.heap.size gs cap (w.alloc (.cells #[.int .i64 0, .int .i64 0] 70)) := by
  have hsz : (w.alloc (.cells #[.int .i64 0, .int .i64 0] 70)).heap.size = w.heap.size + 1 := by simp
  refine ⟨h.sk.dr (Dr.alloc _ _ _), h.len, fun h2 => ?_, h.p0, fun h2 h7 => ⟨(h.p2 h2 h7).1.alloc _, (h.p2 h2 h7).2⟩, fun h6 => ⟨(h.p6 h6).1, (h.p6 h6).2.1, fun h7 => hp_old _ ((h.p6 h6).2.2 h7)⟩, fun h7 => ⟨(h.p7 h7).1, wk_alloc _ (h.p7 h7).2⟩, h.p8, fun h9 => ?_, fun _ => ⟨rfl, heap_alloc_new w _, h.sk.cds.lt, fun z hz => by have := h.sk.lt hz; omega, fun h2 => .inr (h.hhi h2).2.2.2⟩⟩
  · obtain ⟨x1, x2, x3, x4⟩ := h.hhi h2
    exact ⟨x1, x2, x3, by omega⟩
  · obtain ⟨x1, x2, x3, x4, x5⟩ := h.px h9
    exact ⟨x1, hp_old _ x2, x3, x4, x5⟩
end
set_option maxHeartbeats 8000000 in
set_option maxRecDepth 100000 in
theorem fair_walk (a : Option Addr) (n cap : Nat) (m : Nat) (w : World) (h : IsBytes w a n cap) (hm : m < 256) : Calls Try.prog 10 #[.slice a n cap, .int .u8 (m : Int)] w fun e w' => e = .returned (.bool true) ∧ Below w.heap.size w w' := by
  obtain ⟨i0, hi, hz0, hz1, hz2⟩ := info_parts info70r
  have HI := Hd.mk (And.intro hi (And.intro hz0 (And.intro hz1 hz2)))
  clear hi hz0 hz1 hz2
  go_enter Try.func10, Try.ntmps10
  go_wp2_with fail
  refine (awake34 _).mono ?_
  rintro e w1 ⟨rfl, hb1⟩
  have Q0 : Pre w.heap.size w [] w1 := (Pre.nil w).step hb1
  have H := Hd.mk (h.below' Q0.below)
  have HQ := Hd.mk Q0
  clear h hb1 Q0
  go_wp2_with fail
  refine (new_any a n cap 400 _ (by omega) (by omega) H.out).mono ?_
  rintro e w2 ⟨c, hc, hC, rfl, hb2⟩
  have S := HQ.out.sk hb2 hC hc
  clear H HQ hC hb2 hc
  have HS := Hd.mk S
  clear S
  go_wp2_with fail
  obtain ⟨kk, hk8, hke⟩ : ∃ kk : Nat, kk < 8 ∧ (m : Int) % 8 = (kk : Int) := ⟨m % 8, by omega, by omega⟩
  rw [hke]
  clear hke
  refine (shares35 c _ HS.out.cds).mono ?_
  rintro e w3 ⟨s, rfl, hd⟩
  have S := (HS.out.dr hd).alloc (shA s) 61 w3.heap.size rfl
  clear HS hd
  obtain ⟨g7, hg7⟩ : ∃ g, g = w3.heap.size := ⟨_, rfl⟩
  have HC7 : Hd (c < g7) := ⟨by rw [hg7]; have h1 := S.cds.lt; have h2 := (S.mem (w3.heap.size, shA s, 61) (by simp)).1.1; simp at h1; dsimp only at h2; omega⟩
  rw [← hg7] at S
  have HS := Hd.mk S
  clear S
  go_wp2_with fail
  rw [← hg7]
  clear hg7
  go_loopw [8] (fun iv wr => ∃ (i : Nat) (t : Nat → Int), i ≤ 8 ∧ iv = .int .i64 (i : Int) ∧ Hd (lowTo t i) ∧ Hd (Sk c w.heap.size w [(g7, shA t, 61)] wr)) (fun iv _ => 8 - (intOf iv).toNat)
  case atStart => exact ⟨0, s, by omega, rfl, ⟨fun i hi => by omega⟩, HS⟩
  case round =>
    clear HS
    obtain ⟨i, t, hi, rfl, HL, HS⟩ := hrel
    obtain ⟨wl, rfl⟩ : ∃ W : World, W = wr := ⟨_, rfl⟩
    by_cases hlt : i < 8
    · have q1 : (i : Int) < 8 := by omega
      have hcell := shA_s t i hlt
      obtain ⟨b1, b2⟩ := HS.out.cellsAt g7 (shA t) 61 (by simp)
      by_cases h0 : t i < 0
      case pos =>
        have S2 := HS.out.setCell g7 (shA t) 61 (by simp) HC7.out i (.int .i64 0) (l' := []) (fun z hz => by cases hz)
        rw [shA_upd t i 0 hlt] at S2
        have HS2 := Hd.mk S2
        have HL2 : Hd (lowTo (updS t i 0) (i + 1)) := ⟨lowTo_upd HL.out (by omega) (by omega)⟩
        clear S2 HS
        go_wp2_with fail
        go_roundw
        case rel => exact ⟨i + 1, updS t i 0, by omega, by go_num, HL2, HS2⟩
        case measure => simp [intOf]; omega
      case neg =>
        have h1 : 0 ≤ t i := by omega
        by_cases h3 : 3 < t i
        case pos =>
          have S2 := HS.out.setCell g7 (shA t) 61 (by simp) HC7.out i (.int .i64 3) (l' := []) (fun z hz => by cases hz)
          rw [shA_upd t i 3 hlt] at S2
          have HS2 := Hd.mk S2
          have HL2 : Hd (lowTo (updS t i 3) (i + 1)) := ⟨lowTo_upd HL.out (by omega) (by omega)⟩
          clear S2 HS
          go_wp2_with fail
          go_roundw
          case rel => exact ⟨i + 1, updS t i 3, by omega, by go_num, HL2, HS2⟩
          case measure => simp [intOf]; omega
        case neg =>
          have h4 : t i ≤ 3 := by omega
          have S2 := HS.out.setCell g7 (shA t) 61 (by simp) HC7.out i (.int .i64 (t i)) (l' := []) (fun z hz => by cases hz)
          rw [shA_upd t i (t i) hlt] at S2
          have HS2 := Hd.mk S2
          have HL2 : Hd (lowTo (updS t i (t i)) (i + 1)) := ⟨lowTo_upd HL.out (by omega) (by omega)⟩
          clear S2 HS
          go_wp2_with fail
          go_roundw
          case rel => exact ⟨i + 1, updS t i (t i), by omega, by go_num, HL2, HS2⟩
          case measure => simp [intOf]; omega
    · obtain rfl : i = 8 := by omega
      rw [show ((8 : Nat) : Int) = 8 from rfl]
      have hcell := shA_s t kk hk8
      obtain ⟨b1, b2⟩ := HS.out.cellsAt g7 (shA t) 61 (by simp)
      have q1 : (kk : Int) < 8 := by omega
      have h1 := (HL.out kk hk8).1
      have h3 := (HL.out kk hk8).2
      have hS : ∀ xv : Int, 0 < xv → xv ≤ 3 → ∃ t' : Nat → Int, lowTo t' 8 ∧ 0 < t' kk ∧ Sk c w.heap.size w [(g7, shA t', 61)] (wl.setCell ⟨g7, kk, none⟩ (.int .i64 xv)) := fun xv hx0 hx3 => by
        refine ⟨updS t kk xv, fun i hi => ?_, by rw [updS_at]; exact hx0, ?_⟩
        · by_cases he : i = kk
          · subst he; rw [updS_at]; omega
          · rw [show updS t kk xv i = t i by simp [updS, he]]; exact HL.out i hi
        · have S2 := HS.out.setCell g7 (shA t) 61 (by simp) HC7.out kk (.int .i64 xv) (l' := []) (fun z hz => by cases hz)
          rw [shA_upd t kk _ hk8] at S2
          exact S2
      have HU := Hd.mk hS
      clear hS HS
      go_upto_region 10 with fail
      go_cut [] (fun W => ∃ t' : Nat → Int, Hd (lowTo t' 8) ∧ Hd (0 < t' kk) ∧ Hd (Sk c w.heap.size w [(g7, shA t', 61)] W))
      case first =>
        by_cases hlt1 : t kk < 1
        · go_wp2_with fail
          go_meet
          obtain ⟨t', a1, a2, a3⟩ := HU.out 1 (by omega) (by omega)
          exact ⟨t', ⟨a1⟩, ⟨a2⟩, ⟨a3⟩⟩
        · have hge1 : 1 ≤ t kk := by omega
          go_wp2_with fail
          go_meet
          obtain ⟨t', a1, a2, a3⟩ := HU.out (t kk) (by omega) (by omega)
          exact ⟨t', ⟨a1⟩, ⟨a2⟩, ⟨a3⟩⟩
      case rest =>
        clear HU hcell b1 b2 h1 h3 HL
        obtain ⟨t', HL, HP, HS⟩ := hcut
        have l1 := run_ld61 _ g7 t' (HS.out.at g7 (shA t') 61 (by simp)).1
        go_wp2_with fail
        refine (new36 t' _).mono ?_
        rintro e w4 ⟨rfl, hb⟩
        rw [newF_ok (low_sh HL.out)]
        dsimp only
        have S := HS.out.step hb
        have HC4 : Hd (c < w4.heap.size ∧ g7 < w4.heap.size) := ⟨S.cds.lt, S.lt (x := (g7, shA t', 61)) (by simp)⟩
        replace S := S.alloc (quA ⟨t', 1, 0⟩) 64 w4.heap.size rfl
        obtain ⟨g9, hg9⟩ : ∃ g, g = w4.heap.size := ⟨_, rfl⟩
        rw [← hg9] at S HC4
        have HF := Hd.mk (fair_start (low_sh HL.out) hk8 HP.out)
        replace HS := Hd.mk S
        have HR : Hd (sumS t' 8 ≤ 24) := ⟨by have := (sum_low HL.out).2; omega⟩
        clear S hb l1
        go_wp2_with fail
        rw [← hg9]
        clear hg9
        go_loopw [11, 12] (fun sv nv wr => ∃ (j : Nat) (since : Int) (q : Qu), j ≤ 80 ∧ nv = .int .i64 (j : Int) ∧ sv = .int .i64 since ∧ Hd (FairI t' kk q since) ∧ Hd (Sk c w.heap.size w [(g9, quA q, 64), (g7, shA t', 61)] wr)) (fun _ nv _ => 80 - (intOf nv).toNat)
        case atStart => exact ⟨0, 0, _, by omega, rfl, rfl, HF, HS⟩
        case round =>
          clear HS HF
          obtain ⟨j, since, q, hj, rfl, rfl, HF, HS⟩ := hrel
          obtain ⟨wq, rfl⟩ : ∃ W : World, W = wr := ⟨_, rfl⟩
          by_cases hlt2 : j < 80
          · have q2 : (j : Int) < 80 := by omega
            go_upto_region 18 with fail
            have q3 : (kk : Int) + 1 ≤ 8 := by omega
            go_cut [13, 14, 15, 16] (fun s13 s14 s15 s16 W => ∃ (bx bw : Nat) (r : Qu × Wk × Bool × Int), s13 = .pointer (some ⟨bx, 0, none⟩) ∧ s14 = .pointer (some ⟨bw, 0, none⟩) ∧ s15 = .bool true ∧ s16 = .int .i64 0 ∧ Hd (FairR t' kk since r) ∧ Hd (Sk c w.heap.size w [(bw, #[.int .i64 r.2.1.1, .int .i64 r.2.1.2], 70), (bx, quA r.1, 64), (g9, quA q, 64), (g7, shA t', 61)] W) ∧ Hd (bw ≠ g9))
            case first =>
              have hz1 : c < wq.heap.size := HS.out.cds.lt
              have hz2 : g9 < wq.heap.size := HS.out.lt (x := (g9, quA q, 64)) (by simp)
              have hz3 : g7 < wq.heap.size := HS.out.lt (x := (g7, shA t', 61)) (by simp)
              have hz4 : w.heap.size ≤ c := HS.out.hc
              have hz5 : c < g9 := HC4.out.1
              have hz6 : c < g7 := HC7.out
              have hw : ∀ W : World, Sk c w.heap.size w [(g9, quA q, 64), (g7, shA t', 61)] W → Hd (Sk c w.heap.size w [(g9, quA q, 64), (g7, shA t', 61)] W) ∧ rowAt W g9 = quA q := fun W hW => ⟨⟨hW⟩, (hW.at g9 (quA q) 64 (by simp)).1⟩
              have HWW := Hd.mk hw
              clear hw
              have hwr : IntKind.i64.wrap ((kk : Int) + 1) = (kk : Int) + 1 := IntWalk.i64_in _ (by omega)
              refine wp_region_any (by kernel_rfl) ?_
              change wpAny _ _ _ _ _ _ _ (World.drew _)
              refine wpAny_take2 (i := 1) (v := ?v1) (listed' := #[false, true, false, false, false, false, false, false, false, false, false, false, false, false, false, false, false, false, false, false]) (some 56) rfl (by kernel_rfl) (by kernel_rfl) (by kernel_rfl) (fun _ _ _ h => h) rfl (by kernel_rfl) (Or.inl ⟨by rfl, ?y1⟩) ?z1
              case y1 => (intro w; go_simp; try (with_reducible rfl))
              simp only [Act.put, List.setIfInBounds_toArray, List.set_cons_zero, List.set_cons_succ]
              refine wpAny_take2 (i := 3) (v := ?v3) (listed' := #[false, true, false, true, false, false, false, false, false, false, false, false, false, false, false, false, false, false, false, false]) (some 58) rfl (by kernel_rfl) (by kernel_rfl) (by kernel_rfl) (fun _ _ _ h => h) rfl (by kernel_rfl) (Or.inl ⟨by rfl, ?y3⟩) ?z3
              case y3 => (intro w; go_simp; try (with_reducible rfl))
              simp only [Act.put, List.setIfInBounds_toArray, List.set_cons_zero, List.set_cons_succ]
              refine wpAny_take2 (i := 4) (v := ?v4) (listed' := #[false, true, false, true, true, false, false, false, false, false, false, false, false, false, false, false, false, false, false, false]) (some 59) rfl (by kernel_rfl) (by kernel_rfl) (by kernel_rfl) (fun _ _ _ h => h) rfl (by kernel_rfl) (Or.inl ⟨by rfl, ?y4⟩) ?z4
              case y4 => (intro w; go_simp; try (with_reducible rfl))
              simp only [Act.put, List.setIfInBounds_toArray, List.set_cons_zero, List.set_cons_succ]
              refine wpAny_take2 (i := 5) (v := ?v5) (listed' := #[false, true, false, true, true, true, false, false, false, false, false, false, false, false, false, false, false, false, false, false]) (some 60) rfl (by kernel_rfl) (by kernel_rfl) (by kernel_rfl) (fun _ _ _ h => h) rfl (by kernel_rfl) (Or.inl ⟨by rfl, ?y5⟩) ?z5
              case y5 => (intro w; go_simp; try (with_reducible rfl))
              simp only [Act.put, List.setIfInBounds_toArray, List.set_cons_zero, List.set_cons_succ]
              clear hwr HWW
              refine wpAny_name (FS.L ⟨false, false, false, false, false, false, false⟩) (by kernel_rfl) fun a0 ha0 => ?_
              refine wpAny_bits FS.L FS.R FS.N FS.f FS.V FS.E (fun s a W => ∃ v13 v14 v55 v57 v61 v62 v63 l lo hi gb bx bw gs cap, a = (((((((a0.put (some 13) v13).put (some 14) v14).put (some 55) v55).put (some 57) v57).put (some 61) v61).put (some 62) v62).put (some 63) v63) ∧ Hd (FW c w.heap.size kk w [(g9, quA q, 64), (g7, shA t', 61)] q s v13 v14 v55 v57 v61 v62 v63 l lo hi gb bx bw gs cap W)) FS.hE ?hr FS.hL ?hstep ?hend 16 ⟨false, false, false, false, false, false, false⟩ a0 _ (by decide) (by unfold FS.V; decide) ?h0
              case h0 =>
                refine ⟨a0.eval (.tmp 13), a0.eval (.tmp 14), a0.eval (.tmp 55), a0.eval (.tmp 57), a0.eval (.tmp 61), a0.eval (.tmp 62), a0.eval (.tmp 63), [], 0, 0, 0, 0, 0, 0, 0, ?_, ⟨⟨HS.out.dr (Dr.drew c _), by simp, ?_, ?_, ?_, ?_, ?_, ?_, ?_, ?_⟩⟩⟩
                · subst ha0
                  kernel_rfl
                all_goals (intro h; exact absurd h (by decide))
              case hr =>
                intro s hv he
                rcases s with ⟨b0, b2, b6, b7, b8, bx, bw⟩
                unfold FS.V at hv
                unfold FS.E at he
                cases b0 <;> cases b2 <;> cases b6 <;> cases b7 <;> cases b8 <;> cases bx <;> cases bw <;> first | (exfalso; revert hv he; decide) | kernel_rfl
              case hstep =>
                intro s i a W hv he hi hI
                obtain ⟨hm, hc⟩ := FS.mem hi
                obtain ⟨v13, v14, v55, v57, v61, v62, v63, l, lo, hi', gb, bx, bw, gs, cap', rfl, HF2⟩ := hI
                clear hi
                subst ha0
                simp only [Act.put, List.setIfInBounds_toArray, List.set_cons_zero, List.set_cons_succ]
                simp only [List.mem_cons, List.mem_nil_iff, or_false] at hm
                rcases hm with rfl | rfl | rfl | rfl | rfl | rfl | rfl
                · obtain ⟨a1, a2, -, -⟩ := HF2.out.sk.at g9 (quA q) 64 (by simp)
                  refine wpOp_step rfl (fun K hK => ?_)
                  go_simp
                  refine hK _ _ ⟨v13, v14, _, v57, v61, v62, v63, l, lo, hi', gb, bx, bw, gs, cap', ?_, ⟨HF2.out.s0⟩⟩
                  kernel_rfl
                · refine wpOp_step rfl (fun K hK => ?_)
                  go_simp
                  go_at_call 37
                  refine (offers37 c _ HF2.out.sk.cds).mono ?_
                  rintro e w0 ⟨v, l', hl', rfl, hown, hd⟩
                  go_simp
                  refine hK _ _ ⟨v13, v14, v55, v, v61, v62, v63, l', _, _, gb, bx, bw, gs, cap', ?_, ⟨HF2.out.s2 hv hc v l' hl' hown hd⟩⟩
                  kernel_rfl
                · refine wpOp_step rfl (fun K hK => ?_)
                  go_simp
                  refine hK _ _ ⟨v13, v14, v55, v57, _, v62, v63, l, lo, hi', _, bx, bw, gs, cap', ?_, ⟨HF2.out.s6 hv hc⟩⟩
                  kernel_rfl
                · have hb : s.b2 = true ∧ s.b6 = true ∧ s.b7 = false := by simpa [FS.can, and_assoc] using hc
                  obtain ⟨o1, o2⟩ := HF2.out.p2 hb.1 hb.2.2
                  obtain ⟨y1, y2, y3, y4⟩ := HF2.out.hhi hb.1
                  obtain ⟨rfl, z2, z3⟩ := HF2.out.p6 hb.2.1
                  have hlen := HF2.out.len
                  refine wpOp_step rfl (fun K hK => ?_)
                  refine step_append_lies _ (by rfl) _ _ 67 (by rfl) _ 70 i0 (.agg #[.int .i64 0, .int .i64 0]) 2 16 Try.underlying67 HI.out.1 HI.out.2.1 HI.out.2.2.1 HI.out.2.2.2 rfl (by decide) v57 l.length (flatW l) (by rfl) o1 ⟨gb, 0, none⟩ 1 1 [.int .i64 ((kk : Int) + 1), .int .i64 0] (by rfl) (by rfl) (World.news_of_block (z3 hb.2.2)) (by simp [Value.oneCell']) (by decide) (by unfold maxLen; omega) (by omega) (by omega) _ rfl ?_
                  intro g cap2 w4 hown4 hgrow hat hlt4
                  refine hK _ _ ⟨v13, v14, v55, v57, _, _, v63, l, lo, hi', gb, bx, bw, g, cap2, ?_, ⟨HF2.out.s7 hv hc g cap2 hown4 hgrow⟩⟩
                  kernel_rfl
                · have hb : (s.b0 = true ∧ s.b7 = true) ∧ s.b8 = false := by simpa [FS.can] using hc
                  obtain rfl := HF2.out.p0 hb.1.1
                  obtain ⟨rfl, hwk⟩ := HF2.out.p7 hb.1.2
                  have hlen := HF2.out.len
                  refine wpOp_step rfl (fun K hK => ?_)
                  go_simp
                  go_at_call 38
                  refine (next38n (some ⟨gs, 0, none⟩) cap' (l.length + 1) (l ++ [((kk : Int) + 1, 0)]) q _ (by simp) (by simp; omega) hwk).mono ?_
                  rintro e w5 ⟨rfl, hb5⟩
                  go_simp
                  refine hK _ _ ⟨v13, v14, _, v57, v61, _, _, l, lo, hi', gb, bx, bw, gs, cap', ?_, ⟨HF2.out.s8 hc hb5⟩⟩
                  kernel_rfl
                · refine wpOp_step rfl (fun K hK => ?_)
                  go_simp
                  refine hK _ _ ⟨_, v14, v55, v57, v61, v62, v63, l, lo, hi', gb, _, bw, gs, cap', ?_, ⟨HF2.out.sx⟩⟩
                  kernel_rfl
                · refine wpOp_step rfl (fun K hK => ?_)
                  go_simp
                  refine hK _ _ ⟨v13, _, v55, v57, v61, v62, v63, l, lo, hi', gb, bx, _, gs, cap', ?_, ⟨HF2.out.sw⟩⟩
                  kernel_rfl
              case hend =>
                intro s a W hv he hI
                obtain ⟨v13, v14, v55, v57, v61, v62, v63, l, lo, hi', gb, bx, bw, gs, cap', rfl, HF2⟩ := hI
                subst ha0
                obtain rfl := HF2.out.p8 he
                have hok : FairR t' kk since (nextF q (l ++ [((kk : Int) + 1, 0)])) := fair_next hk8 HP.out HF.out (hasK_last l ((kk : Int) + 1) 0)
                have HOK := Hd.mk hok
                clear hok
                rcases s with ⟨b0, b2, b6, b7, b8, sx, sw⟩
                unfold FS.V at hv
                unfold FS.E at he
                dsimp only at hv he
                subst he
                obtain ⟨hv1, hv2⟩ := hv
                simp at hv2
                obtain ⟨rfl, rfl⟩ := hv2
                simp at hv1
                obtain ⟨rfl, rfl⟩ := hv1
                simp only [Act.put, List.setIfInBounds_toArray, List.set_cons_zero, List.set_cons_succ]
                cases sx <;> cases sw
                · refine wpAny_num 11 #[true, true, true, true, true, true, true, true, true, false, false, false, false, false, false, false, false, false, false, false] (by kernel_rfl) (by kernel_rfl) ?_
                  refine wpAny_take2 (i := 9) (v := ?v9q110) (listed' := #[true, true, true, true, true, true, true, true, true, true, false, false, false, false, false, false, false, false, false, false]) (some 54) rfl (by kernel_rfl) (by kernel_rfl) (by kernel_rfl) (fun _ _ _ h => h) rfl (by kernel_rfl) (Or.inl ⟨by rfl, ?y9q110⟩) ?z9q110
                  case y9q110 => (intro w; go_simp; try (with_reducible rfl))
                  simp only [Act.put, List.setIfInBounds_toArray, List.set_cons_zero, List.set_cons_succ]
                  refine wpAny_take2 (i := 10) (v := ?v10q110) (listed' := #[true, true, true, true, true, true, true, true, true, true, true, false, false, false, false, false, false, false, false, false]) (some 64) rfl (by kernel_rfl) (by kernel_rfl) (by kernel_rfl) (fun _ _ _ h => h) rfl (by kernel_rfl) (Or.inl ⟨by rfl, ?y10q110⟩) ?z10q110
                  case y10q110 => (intro w; go_simp; try (with_reducible rfl))
                  simp only [Act.put, List.setIfInBounds_toArray, List.set_cons_zero, List.set_cons_succ]
                  refine wpAny_take2 (i := 11) (v := ?v11q110) (listed' := #[true, true, true, true, true, true, true, true, true, true, true, true, false, false, false, false, false, false, false, false]) (some 65) rfl (by kernel_rfl) (by kernel_rfl) (by kernel_rfl) (fun _ _ _ h => h) rfl (by kernel_rfl) (Or.inl ⟨by rfl, ?y11q110⟩) ?z11q110
                  case y11q110 => (intro w; go_simp; try (with_reducible rfl))
                  simp only [Act.put, List.setIfInBounds_toArray, List.set_cons_zero, List.set_cons_succ]
                  refine wpAny_take2 (i := 12) (v := ?v12q110) (listed' := #[true, true, true, true, true, true, true, true, true, true, true, true, true, false, false, false, false, false, false, false]) (some 66) rfl (by kernel_rfl) (by kernel_rfl) (by kernel_rfl) (fun _ _ _ h => h) rfl (by kernel_rfl) (Or.inl ⟨by rfl, ?y12q110⟩) ?z12q110
                  case y12q110 => (intro w; go_simp; try (with_reducible rfl))
                  simp only [Act.put, List.setIfInBounds_toArray, List.set_cons_zero, List.set_cons_succ]
                  refine wpAny_take2 (i := 13) (v := ?v13q110) (listed' := #[true, true, true, true, true, true, true, true, true, true, true, true, true, true, false, false, false, false, false, false]) (some 67) rfl (by kernel_rfl) (by kernel_rfl) (by kernel_rfl) (fun _ _ _ h => h) rfl (by kernel_rfl) (Or.inl ⟨by rfl, ?y13q110⟩) ?z13q110
                  case y13q110 => (intro w; go_simp; try (with_reducible rfl))
                  simp only [Act.put, List.setIfInBounds_toArray, List.set_cons_zero, List.set_cons_succ]
                  refine wpAny_name (FS.L2 ⟨true, true, true, true, true, false, false⟩) (by kernel_rfl) fun a1 ha1 => ?_
                  refine wpAny_bits FS.L2 FS.R2 FS.N FS.f2 FS.V2 FS.E2 (fun s a W => ∃ v13 v14 bx bw, a = ((a1.put (some 13) v13).put (some 14) v14) ∧ Hd (FW c w.heap.size kk w [(g9, quA q, 64), (g7, shA t', 61)] q s v13 v14 v55 v57 v61 v62 _ l lo hi' gb bx bw gs cap' W)) FS.hE2 ?hr110 FS.hL2 ?hs110 ?he110 6 ⟨true, true, true, true, true, false, false⟩ a1 _ (by decide) (by unfold FS.V2; decide) ⟨a1.eval (.tmp 13), a1.eval (.tmp 14), bx, bw, by subst ha1; kernel_rfl, by subst ha1; exact HF2⟩
                  case hr110 =>
                    intro s hv he
                    rcases s with ⟨b0, b2, b6, b7, b8, bx, bw⟩
                    unfold FS.V2 at hv
                    unfold FS.E2 at he
                    cases b0 <;> cases b2 <;> cases b6 <;> cases b7 <;> cases b8 <;> cases bx <;> cases bw <;> first | (exfalso; revert hv he; decide) | kernel_rfl
                  case hs110 =>
                    clear HF2
                    intro s i a W hv he hi hI
                    obtain ⟨hm, hc⟩ := FS.mem2 hi
                    obtain ⟨v13, v14, bx, bw, rfl, HF2⟩ := hI
                    clear hi
                    subst ha1
                    simp only [Act.put, List.setIfInBounds_toArray, List.set_cons_zero, List.set_cons_succ]
                    simp only [List.mem_cons, List.mem_nil_iff, or_false] at hm
                    rcases hm with rfl | rfl
                    · refine wpOp_step rfl (fun K hK => ?_)
                      go_simp
                      refine hK _ _ ⟨_, v14, _, bw, ?_, ⟨HF2.out.sx⟩⟩
                      kernel_rfl
                    · refine wpOp_step rfl (fun K hK => ?_)
                      go_simp
                      refine hK _ _ ⟨v13, _, bx, _, ?_, ⟨HF2.out.sw⟩⟩
                      kernel_rfl
                  case he110 =>
                    clear HF2
                    intro s a W hv he hI
                    obtain ⟨v13, v14, bx, bw, rfl, HF2⟩ := hI
                    subst ha1
                    rcases s with ⟨b0, b2, b6, b7, b8, sx, sw⟩
                    unfold FS.E2 at he
                    simp at he
                    obtain ⟨rfl, rfl⟩ := he
                    obtain ⟨rfl, p13, x3, x4, -⟩ := HF2.out.px rfl
                    obtain ⟨rfl, p14, y3, y4, -⟩ := HF2.out.pw rfl
                    have HS5 := Hd.mk HF2.out.sk
                    clear HF2
                    simp only [Act.put, List.setIfInBounds_toArray, List.set_cons_zero, List.set_cons_succ]
                    refine wpAny_num 4 #[true, true, true, true, true, true, true, true, true, true, true, true, true, true, true, true, false, false, false, false] (by kernel_rfl) (by kernel_rfl) ?_
                    obtain ⟨d1, d2, -, -, d3⟩ := blk p13
                    obtain ⟨-, e1, e2, e3, e4⟩ := blk p14
                    obtain ⟨z1, z2⟩ := hp_ne p13 p14
                    refine wpAny_ready (rs := [16]) (by kernel_rfl) (by simp) (AllReady.cons rfl (fun K hK => ?_) AllReady.nil)
                    go_simp
                    refine hK _ _ ?_; clear hK K
                    refine wpAny_ready (rs := [17]) (by kernel_rfl) (by simp) (AllReady.cons rfl (fun K hK => ?_) AllReady.nil)
                    go_simp
                    refine hK _ _ ?_; clear hK K
                    refine wpAny_ready (rs := [18]) (by kernel_rfl) (by simp) (AllReady.cons rfl (fun K hK => ?_) AllReady.nil)
                    go_simp
                    refine hK _ _ ?_; clear hK K
                    refine wpAny_ready (rs := [19]) (by kernel_rfl) (by simp) (AllReady.cons rfl (fun K hK => ?_) AllReady.nil)
                    go_simp
                    refine hK _ _ ?_; clear hK K
                    refine wpAny_done (by kernel_rfl) ?_ _
                    go_wp2_with fail
                    go_meet
                    exact ⟨bx, bw, nextF q (l ++ [((kk : Int) + 1, 0)]), rfl, rfl, by rw [HOK.out.ok], by rw [HOK.out.e], HOK, ⟨Sk.cons (Sk.cons (((HS5.out.rowOut bx _ x3 x4).cellOut bw 0 _ y3 y4).cellOut bw 1 _ y3 y4) (hp_cell' 1 _ z1 (hp_cell' 0 _ z1 (hp_row _ p13))) (by omega) (by omega)) (hp_two _ _ _ _ (hp_row' _ z2 p14)) (by omega) (by omega)⟩, ⟨fun e => y4 (g9, quA q, 64) (by simp) e.symm⟩⟩
                · refine wpAny_num 10 #[true, true, true, true, true, true, true, true, true, false, false, false, false, false, false, true, false, false, false, false] (by kernel_rfl) (by kernel_rfl) ?_
                  refine wpAny_take2 (i := 9) (v := ?v9q100) (listed' := #[true, true, true, true, true, true, true, true, true, true, false, false, false, false, false, true, false, false, false, false]) (some 54) rfl (by kernel_rfl) (by kernel_rfl) (by kernel_rfl) (fun _ _ _ h => h) rfl (by kernel_rfl) (Or.inl ⟨by rfl, ?y9q100⟩) ?z9q100
                  case y9q100 => (intro w; go_simp; try (with_reducible rfl))
                  simp only [Act.put, List.setIfInBounds_toArray, List.set_cons_zero, List.set_cons_succ]
                  refine wpAny_take2 (i := 10) (v := ?v10q100) (listed' := #[true, true, true, true, true, true, true, true, true, true, true, false, false, false, false, true, false, false, false, false]) (some 64) rfl (by kernel_rfl) (by kernel_rfl) (by kernel_rfl) (fun _ _ _ h => h) rfl (by kernel_rfl) (Or.inl ⟨by rfl, ?y10q100⟩) ?z10q100
                  case y10q100 => (intro w; go_simp; try (with_reducible rfl))
                  simp only [Act.put, List.setIfInBounds_toArray, List.set_cons_zero, List.set_cons_succ]
                  refine wpAny_take2 (i := 11) (v := ?v11q100) (listed' := #[true, true, true, true, true, true, true, true, true, true, true, true, false, false, false, true, false, false, false, false]) (some 65) rfl (by kernel_rfl) (by kernel_rfl) (by kernel_rfl) (fun _ _ _ h => h) rfl (by kernel_rfl) (Or.inl ⟨by rfl, ?y11q100⟩) ?z11q100
                  case y11q100 => (intro w; go_simp; try (with_reducible rfl))
                  simp only [Act.put, List.setIfInBounds_toArray, List.set_cons_zero, List.set_cons_succ]
                  refine wpAny_take2 (i := 12) (v := ?v12q100) (listed' := #[true, true, true, true, true, true, true, true, true, true, true, true, true, false, false, true, false, false, false, false]) (some 66) rfl (by kernel_rfl) (by kernel_rfl) (by kernel_rfl) (fun _ _ _ h => h) rfl (by kernel_rfl) (Or.inl ⟨by rfl, ?y12q100⟩) ?z12q100
                  case y12q100 => (intro w; go_simp; try (with_reducible rfl))
                  simp only [Act.put, List.setIfInBounds_toArray, List.set_cons_zero, List.set_cons_succ]
                  refine wpAny_take2 (i := 13) (v := ?v13q100) (listed' := #[true, true, true, true, true, true, true, true, true, true, true, true, true, true, false, true, false, false, false, false]) (some 67) rfl (by kernel_rfl) (by kernel_rfl) (by kernel_rfl) (fun _ _ _ h => h) rfl (by kernel_rfl) (Or.inl ⟨by rfl, ?y13q100⟩) ?z13q100
                  case y13q100 => (intro w; go_simp; try (with_reducible rfl))
                  simp only [Act.put, List.setIfInBounds_toArray, List.set_cons_zero, List.set_cons_succ]
                  refine wpAny_name (FS.L2 ⟨true, true, true, true, true, false, true⟩) (by kernel_rfl) fun a1 ha1 => ?_
                  refine wpAny_bits FS.L2 FS.R2 FS.N FS.f2 FS.V2 FS.E2 (fun s a W => ∃ v13 v14 bx bw, a = ((a1.put (some 13) v13).put (some 14) v14) ∧ Hd (FW c w.heap.size kk w [(g9, quA q, 64), (g7, shA t', 61)] q s v13 v14 v55 v57 v61 v62 _ l lo hi' gb bx bw gs cap' W)) FS.hE2 ?hr100 FS.hL2 ?hs100 ?he100 5 ⟨true, true, true, true, true, false, true⟩ a1 _ (by decide) (by unfold FS.V2; decide) ⟨a1.eval (.tmp 13), a1.eval (.tmp 14), bx, bw, by subst ha1; kernel_rfl, by subst ha1; exact HF2⟩
                  case hr100 =>
                    intro s hv he
                    rcases s with ⟨b0, b2, b6, b7, b8, bx, bw⟩
                    unfold FS.V2 at hv
                    unfold FS.E2 at he
                    cases b0 <;> cases b2 <;> cases b6 <;> cases b7 <;> cases b8 <;> cases bx <;> cases bw <;> first | (exfalso; revert hv he; decide) | kernel_rfl
                  case hs100 =>
                    clear HF2
                    intro s i a W hv he hi hI
                    obtain ⟨hm, hc⟩ := FS.mem2 hi
                    obtain ⟨v13, v14, bx, bw, rfl, HF2⟩ := hI
                    clear hi
                    subst ha1
                    simp only [Act.put, List.setIfInBounds_toArray, List.set_cons_zero, List.set_cons_succ]
                    simp only [List.mem_cons, List.mem_nil_iff, or_false] at hm
                    rcases hm with rfl | rfl
                    · refine wpOp_step rfl (fun K hK => ?_)
                      go_simp
                      refine hK _ _ ⟨_, v14, _, bw, ?_, ⟨HF2.out.sx⟩⟩
                      kernel_rfl
                    · refine wpOp_step rfl (fun K hK => ?_)
                      go_simp
                      refine hK _ _ ⟨v13, _, bx, _, ?_, ⟨HF2.out.sw⟩⟩
                      kernel_rfl
                  case he100 =>
                    clear HF2
                    intro s a W hv he hI
                    obtain ⟨v13, v14, bx, bw, rfl, HF2⟩ := hI
                    subst ha1
                    rcases s with ⟨b0, b2, b6, b7, b8, sx, sw⟩
                    unfold FS.E2 at he
                    simp at he
                    obtain ⟨rfl, rfl⟩ := he
                    obtain ⟨rfl, p13, x3, x4, -⟩ := HF2.out.px rfl
                    obtain ⟨rfl, p14, y3, y4, -⟩ := HF2.out.pw rfl
                    have HS5 := Hd.mk HF2.out.sk
                    clear HF2
                    simp only [Act.put, List.setIfInBounds_toArray, List.set_cons_zero, List.set_cons_succ]
                    refine wpAny_num 4 #[true, true, true, true, true, true, true, true, true, true, true, true, true, true, true, true, false, false, false, false] (by kernel_rfl) (by kernel_rfl) ?_
                    obtain ⟨d1, d2, -, -, d3⟩ := blk p13
                    obtain ⟨-, e1, e2, e3, e4⟩ := blk p14
                    obtain ⟨z1, z2⟩ := hp_ne p13 p14
                    refine wpAny_ready (rs := [16]) (by kernel_rfl) (by simp) (AllReady.cons rfl (fun K hK => ?_) AllReady.nil)
                    go_simp
                    refine hK _ _ ?_; clear hK K
                    refine wpAny_ready (rs := [17]) (by kernel_rfl) (by simp) (AllReady.cons rfl (fun K hK => ?_) AllReady.nil)
                    go_simp
                    refine hK _ _ ?_; clear hK K
                    refine wpAny_ready (rs := [18]) (by kernel_rfl) (by simp) (AllReady.cons rfl (fun K hK => ?_) AllReady.nil)
                    go_simp
                    refine hK _ _ ?_; clear hK K
                    refine wpAny_ready (rs := [19]) (by kernel_rfl) (by simp) (AllReady.cons rfl (fun K hK => ?_) AllReady.nil)
                    go_simp
                    refine hK _ _ ?_; clear hK K
                    refine wpAny_done (by kernel_rfl) ?_ _
                    go_wp2_with fail
                    go_meet
                    exact ⟨bx, bw, nextF q (l ++ [((kk : Int) + 1, 0)]), rfl, rfl, by rw [HOK.out.ok], by rw [HOK.out.e], HOK, ⟨Sk.cons (Sk.cons (((HS5.out.rowOut bx _ x3 x4).cellOut bw 0 _ y3 y4).cellOut bw 1 _ y3 y4) (hp_cell' 1 _ z1 (hp_cell' 0 _ z1 (hp_row _ p13))) (by omega) (by omega)) (hp_two _ _ _ _ (hp_row' _ z2 p14)) (by omega) (by omega)⟩, ⟨fun e => y4 (g9, quA q, 64) (by simp) e.symm⟩⟩
                · refine wpAny_num 10 #[true, true, true, true, true, true, true, true, true, false, false, false, false, false, true, false, false, false, false, false] (by kernel_rfl) (by kernel_rfl) ?_
                  refine wpAny_take2 (i := 9) (v := ?v9q101) (listed' := #[true, true, true, true, true, true, true, true, true, true, false, false, false, false, true, false, false, false, false, false]) (some 54) rfl (by kernel_rfl) (by kernel_rfl) (by kernel_rfl) (fun _ _ _ h => h) rfl (by kernel_rfl) (Or.inl ⟨by rfl, ?y9q101⟩) ?z9q101
                  case y9q101 => (intro w; go_simp; try (with_reducible rfl))
                  simp only [Act.put, List.setIfInBounds_toArray, List.set_cons_zero, List.set_cons_succ]
                  refine wpAny_take2 (i := 10) (v := ?v10q101) (listed' := #[true, true, true, true, true, true, true, true, true, true, true, false, false, false, true, false, false, false, false, false]) (some 64) rfl (by kernel_rfl) (by kernel_rfl) (by kernel_rfl) (fun _ _ _ h => h) rfl (by kernel_rfl) (Or.inl ⟨by rfl, ?y10q101⟩) ?z10q101
                  case y10q101 => (intro w; go_simp; try (with_reducible rfl))
                  simp only [Act.put, List.setIfInBounds_toArray, List.set_cons_zero, List.set_cons_succ]
                  refine wpAny_take2 (i := 11) (v := ?v11q101) (listed' := #[true, true, true, true, true, true, true, true, true, true, true, true, false, false, true, false, false, false, false, false]) (some 65) rfl (by kernel_rfl) (by kernel_rfl) (by kernel_rfl) (fun _ _ _ h => h) rfl (by kernel_rfl) (Or.inl ⟨by rfl, ?y11q101⟩) ?z11q101
                  case y11q101 => (intro w; go_simp; try (with_reducible rfl))
                  simp only [Act.put, List.setIfInBounds_toArray, List.set_cons_zero, List.set_cons_succ]
                  refine wpAny_take2 (i := 12) (v := ?v12q101) (listed' := #[true, true, true, true, true, true, true, true, true, true, true, true, true, false, true, false, false, false, false, false]) (some 66) rfl (by kernel_rfl) (by kernel_rfl) (by kernel_rfl) (fun _ _ _ h => h) rfl (by kernel_rfl) (Or.inl ⟨by rfl, ?y12q101⟩) ?z12q101
                  case y12q101 => (intro w; go_simp; try (with_reducible rfl))
                  simp only [Act.put, List.setIfInBounds_toArray, List.set_cons_zero, List.set_cons_succ]
                  refine wpAny_take2 (i := 13) (v := ?v13q101) (listed' := #[true, true, true, true, true, true, true, true, true, true, true, true, true, true, true, false, false, false, false, false]) (some 67) rfl (by kernel_rfl) (by kernel_rfl) (by kernel_rfl) (fun _ _ _ h => h) rfl (by kernel_rfl) (Or.inl ⟨by rfl, ?y13q101⟩) ?z13q101
                  case y13q101 => (intro w; go_simp; try (with_reducible rfl))
                  simp only [Act.put, List.setIfInBounds_toArray, List.set_cons_zero, List.set_cons_succ]
                  refine wpAny_name (FS.L2 ⟨true, true, true, true, true, true, false⟩) (by kernel_rfl) fun a1 ha1 => ?_
                  refine wpAny_bits FS.L2 FS.R2 FS.N FS.f2 FS.V2 FS.E2 (fun s a W => ∃ v13 v14 bx bw, a = ((a1.put (some 13) v13).put (some 14) v14) ∧ Hd (FW c w.heap.size kk w [(g9, quA q, 64), (g7, shA t', 61)] q s v13 v14 v55 v57 v61 v62 _ l lo hi' gb bx bw gs cap' W)) FS.hE2 ?hr101 FS.hL2 ?hs101 ?he101 5 ⟨true, true, true, true, true, true, false⟩ a1 _ (by decide) (by unfold FS.V2; decide) ⟨a1.eval (.tmp 13), a1.eval (.tmp 14), bx, bw, by subst ha1; kernel_rfl, by subst ha1; exact HF2⟩
                  case hr101 =>
                    intro s hv he
                    rcases s with ⟨b0, b2, b6, b7, b8, bx, bw⟩
                    unfold FS.V2 at hv
                    unfold FS.E2 at he
                    cases b0 <;> cases b2 <;> cases b6 <;> cases b7 <;> cases b8 <;> cases bx <;> cases bw <;> first | (exfalso; revert hv he; decide) | kernel_rfl
                  case hs101 =>
                    clear HF2
                    intro s i a W hv he hi hI
                    obtain ⟨hm, hc⟩ := FS.mem2 hi
                    obtain ⟨v13, v14, bx, bw, rfl, HF2⟩ := hI
                    clear hi
                    subst ha1
                    simp only [Act.put, List.setIfInBounds_toArray, List.set_cons_zero, List.set_cons_succ]
                    simp only [List.mem_cons, List.mem_nil_iff, or_false] at hm
                    rcases hm with rfl | rfl
                    · refine wpOp_step rfl (fun K hK => ?_)
                      go_simp
                      refine hK _ _ ⟨_, v14, _, bw, ?_, ⟨HF2.out.sx⟩⟩
                      kernel_rfl
                    · refine wpOp_step rfl (fun K hK => ?_)
                      go_simp
                      refine hK _ _ ⟨v13, _, bx, _, ?_, ⟨HF2.out.sw⟩⟩
                      kernel_rfl
                  case he101 =>
                    clear HF2
                    intro s a W hv he hI
                    obtain ⟨v13, v14, bx, bw, rfl, HF2⟩ := hI
                    subst ha1
                    rcases s with ⟨b0, b2, b6, b7, b8, sx, sw⟩
                    unfold FS.E2 at he
                    simp at he
                    obtain ⟨rfl, rfl⟩ := he
                    obtain ⟨rfl, p13, x3, x4, -⟩ := HF2.out.px rfl
                    obtain ⟨rfl, p14, y3, y4, -⟩ := HF2.out.pw rfl
                    have HS5 := Hd.mk HF2.out.sk
                    clear HF2
                    simp only [Act.put, List.setIfInBounds_toArray, List.set_cons_zero, List.set_cons_succ]
                    refine wpAny_num 4 #[true, true, true, true, true, true, true, true, true, true, true, true, true, true, true, true, false, false, false, false] (by kernel_rfl) (by kernel_rfl) ?_
                    obtain ⟨d1, d2, -, -, d3⟩ := blk p13
                    obtain ⟨-, e1, e2, e3, e4⟩ := blk p14
                    obtain ⟨z1, z2⟩ := hp_ne p13 p14
                    refine wpAny_ready (rs := [16]) (by kernel_rfl) (by simp) (AllReady.cons rfl (fun K hK => ?_) AllReady.nil)
                    go_simp
                    refine hK _ _ ?_; clear hK K
                    refine wpAny_ready (rs := [17]) (by kernel_rfl) (by simp) (AllReady.cons rfl (fun K hK => ?_) AllReady.nil)
                    go_simp
                    refine hK _ _ ?_; clear hK K
                    refine wpAny_ready (rs := [18]) (by kernel_rfl) (by simp) (AllReady.cons rfl (fun K hK => ?_) AllReady.nil)
                    go_simp
                    refine hK _ _ ?_; clear hK K
                    refine wpAny_ready (rs := [19]) (by kernel_rfl) (by simp) (AllReady.cons rfl (fun K hK => ?_) AllReady.nil)
                    go_simp
                    refine hK _ _ ?_; clear hK K
                    refine wpAny_done (by kernel_rfl) ?_ _
                    go_wp2_with fail
                    go_meet
                    exact ⟨bx, bw, nextF q (l ++ [((kk : Int) + 1, 0)]), rfl, rfl, by rw [HOK.out.ok], by rw [HOK.out.e], HOK, ⟨Sk.cons (Sk.cons (((HS5.out.rowOut bx _ x3 x4).cellOut bw 0 _ y3 y4).cellOut bw 1 _ y3 y4) (hp_cell' 1 _ z1 (hp_cell' 0 _ z1 (hp_row _ p13))) (by omega) (by omega)) (hp_two _ _ _ _ (hp_row' _ z2 p14)) (by omega) (by omega)⟩, ⟨fun e => y4 (g9, quA q, 64) (by simp) e.symm⟩⟩
                · refine wpAny_num 9 #[true, true, true, true, true, true, true, true, true, false, false, false, false, false, true, true, false, false, false, false] (by kernel_rfl) (by kernel_rfl) ?_
                  refine wpAny_take2 (i := 9) (v := ?v9q91) (listed' := #[true, true, true, true, true, true, true, true, true, true, false, false, false, false, true, true, false, false, false, false]) (some 54) rfl (by kernel_rfl) (by kernel_rfl) (by kernel_rfl) (fun _ _ _ h => h) rfl (by kernel_rfl) (Or.inl ⟨by rfl, ?y9q91⟩) ?z9q91
                  case y9q91 => (intro w; go_simp; try (with_reducible rfl))
                  simp only [Act.put, List.setIfInBounds_toArray, List.set_cons_zero, List.set_cons_succ]
                  refine wpAny_take2 (i := 10) (v := ?v10q91) (listed' := #[true, true, true, true, true, true, true, true, true, true, true, false, false, false, true, true, false, false, false, false]) (some 64) rfl (by kernel_rfl) (by kernel_rfl) (by kernel_rfl) (fun _ _ _ h => h) rfl (by kernel_rfl) (Or.inl ⟨by rfl, ?y10q91⟩) ?z10q91
                  case y10q91 => (intro w; go_simp; try (with_reducible rfl))
                  simp only [Act.put, List.setIfInBounds_toArray, List.set_cons_zero, List.set_cons_succ]
                  refine wpAny_take2 (i := 11) (v := ?v11q91) (listed' := #[true, true, true, true, true, true, true, true, true, true, true, true, false, false, true, true, false, false, false, false]) (some 65) rfl (by kernel_rfl) (by kernel_rfl) (by kernel_rfl) (fun _ _ _ h => h) rfl (by kernel_rfl) (Or.inl ⟨by rfl, ?y11q91⟩) ?z11q91
                  case y11q91 => (intro w; go_simp; try (with_reducible rfl))
                  simp only [Act.put, List.setIfInBounds_toArray, List.set_cons_zero, List.set_cons_succ]
                  refine wpAny_take2 (i := 12) (v := ?v12q91) (listed' := #[true, true, true, true, true, true, true, true, true, true, true, true, true, false, true, true, false, false, false, false]) (some 66) rfl (by kernel_rfl) (by kernel_rfl) (by kernel_rfl) (fun _ _ _ h => h) rfl (by kernel_rfl) (Or.inl ⟨by rfl, ?y12q91⟩) ?z12q91
                  case y12q91 => (intro w; go_simp; try (with_reducible rfl))
                  simp only [Act.put, List.setIfInBounds_toArray, List.set_cons_zero, List.set_cons_succ]
                  refine wpAny_take2 (i := 13) (v := ?v13q91) (listed' := #[true, true, true, true, true, true, true, true, true, true, true, true, true, true, true, true, false, false, false, false]) (some 67) rfl (by kernel_rfl) (by kernel_rfl) (by kernel_rfl) (fun _ _ _ h => h) rfl (by kernel_rfl) (Or.inl ⟨by rfl, ?y13q91⟩) ?z13q91
                  case y13q91 => (intro w; go_simp; try (with_reducible rfl))
                  simp only [Act.put, List.setIfInBounds_toArray, List.set_cons_zero, List.set_cons_succ]
                  refine wpAny_name (FS.L2 ⟨true, true, true, true, true, true, true⟩) (by kernel_rfl) fun a1 ha1 => ?_
                  refine wpAny_bits FS.L2 FS.R2 FS.N FS.f2 FS.V2 FS.E2 (fun s a W => ∃ v13 v14 bx bw, a = ((a1.put (some 13) v13).put (some 14) v14) ∧ Hd (FW c w.heap.size kk w [(g9, quA q, 64), (g7, shA t', 61)] q s v13 v14 v55 v57 v61 v62 _ l lo hi' gb bx bw gs cap' W)) FS.hE2 ?hr91 FS.hL2 ?hs91 ?he91 4 ⟨true, true, true, true, true, true, true⟩ a1 _ (by decide) (by unfold FS.V2; decide) ⟨a1.eval (.tmp 13), a1.eval (.tmp 14), bx, bw, by subst ha1; kernel_rfl, by subst ha1; exact HF2⟩
                  case hr91 =>
                    intro s hv he
                    rcases s with ⟨b0, b2, b6, b7, b8, bx, bw⟩
                    unfold FS.V2 at hv
                    unfold FS.E2 at he
                    cases b0 <;> cases b2 <;> cases b6 <;> cases b7 <;> cases b8 <;> cases bx <;> cases bw <;> first | (exfalso; revert hv he; decide) | kernel_rfl
                  case hs91 =>
                    clear HF2
                    intro s i a W hv he hi hI
                    obtain ⟨hm, hc⟩ := FS.mem2 hi
                    obtain ⟨v13, v14, bx, bw, rfl, HF2⟩ := hI
                    clear hi
                    subst ha1
                    simp only [Act.put, List.setIfInBounds_toArray, List.set_cons_zero, List.set_cons_succ]
                    simp only [List.mem_cons, List.mem_nil_iff, or_false] at hm
                    rcases hm with rfl | rfl
                    · refine wpOp_step rfl (fun K hK => ?_)
                      go_simp
                      refine hK _ _ ⟨_, v14, _, bw, ?_, ⟨HF2.out.sx⟩⟩
                      kernel_rfl
                    · refine wpOp_step rfl (fun K hK => ?_)
                      go_simp
                      refine hK _ _ ⟨v13, _, bx, _, ?_, ⟨HF2.out.sw⟩⟩
                      kernel_rfl
                  case he91 =>
                    clear HF2
                    intro s a W hv he hI
                    obtain ⟨v13, v14, bx, bw, rfl, HF2⟩ := hI
                    subst ha1
                    rcases s with ⟨b0, b2, b6, b7, b8, sx, sw⟩
                    unfold FS.E2 at he
                    simp at he
                    obtain ⟨rfl, rfl⟩ := he
                    obtain ⟨rfl, p13, x3, x4, -⟩ := HF2.out.px rfl
                    obtain ⟨rfl, p14, y3, y4, -⟩ := HF2.out.pw rfl
                    have HS5 := Hd.mk HF2.out.sk
                    clear HF2
                    simp only [Act.put, List.setIfInBounds_toArray, List.set_cons_zero, List.set_cons_succ]
                    refine wpAny_num 4 #[true, true, true, true, true, true, true, true, true, true, true, true, true, true, true, true, false, false, false, false] (by kernel_rfl) (by kernel_rfl) ?_
                    obtain ⟨d1, d2, -, -, d3⟩ := blk p13
                    obtain ⟨-, e1, e2, e3, e4⟩ := blk p14
                    obtain ⟨z1, z2⟩ := hp_ne p13 p14
                    refine wpAny_ready (rs := [16]) (by kernel_rfl) (by simp) (AllReady.cons rfl (fun K hK => ?_) AllReady.nil)
                    go_simp
                    refine hK _ _ ?_; clear hK K
                    refine wpAny_ready (rs := [17]) (by kernel_rfl) (by simp) (AllReady.cons rfl (fun K hK => ?_) AllReady.nil)
                    go_simp
                    refine hK _ _ ?_; clear hK K
                    refine wpAny_ready (rs := [18]) (by kernel_rfl) (by simp) (AllReady.cons rfl (fun K hK => ?_) AllReady.nil)
                    go_simp
                    refine hK _ _ ?_; clear hK K
                    refine wpAny_ready (rs := [19]) (by kernel_rfl) (by simp) (AllReady.cons rfl (fun K hK => ?_) AllReady.nil)
                    go_simp
                    refine hK _ _ ?_; clear hK K
                    refine wpAny_done (by kernel_rfl) ?_ _
                    go_wp2_with fail
                    go_meet
                    exact ⟨bx, bw, nextF q (l ++ [((kk : Int) + 1, 0)]), rfl, rfl, by rw [HOK.out.ok], by rw [HOK.out.e], HOK, ⟨Sk.cons (Sk.cons (((HS5.out.rowOut bx _ x3 x4).cellOut bw 0 _ y3 y4).cellOut bw 1 _ y3 y4) (hp_cell' 1 _ z1 (hp_cell' 0 _ z1 (hp_row _ p13))) (by omega) (by omega)) (hp_two _ _ _ _ (hp_row' _ z2 p14)) (by omega) (by omega)⟩, ⟨fun e => y4 (g9, quA q, 64) (by simp) e.symm⟩⟩
            case rest =>
              obtain ⟨bx, bw, r, rfl, rfl, rfl, rfl, HFR, HS2, HNE⟩ := hcut
              obtain ⟨x, ⟨y, z⟩, ok, e⟩ := r
              obtain rfl : e = 0 := HFR.out.e
              obtain rfl : ok = true := HFR.out.ok
              obtain ⟨jj, hj8, hyj, hne⟩ := HFR.out.w
              dsimp only at hyj
              subst hyj
              have HI2 := Hd.mk HFR.out.i
              dsimp only at HI2 HS2
              obtain ⟨a1, a2, -, -⟩ := HS2.out.at bx (quA x) 64 (by simp)
              obtain ⟨b1, b2, -, -⟩ := HS2.out.at g9 (quA q) 64 (by simp)
              obtain ⟨c1, c2⟩ := HS2.out.cellsAt bw #[.int .i64 ((jj : Int) + 1), .int .i64 z] 70 (by simp)
              obtain ⟨d1, d2⟩ := HS2.out.cellsAt g7 (shA t') 61 (by simp)
              have hcell := shA_s t' jj hj8
              have e1 : (t' jj == 0) = false := by simpa using hne
              have q5 : (jj : Int) + 1 ≤ 8 := by omega
              have q6 : (1 : Int) ≤ (jj : Int) + 1 := by omega
              have q7 : (jj : Int) < 8 := by omega
              have n1 := HNE.out
              have f0 := HF.out.n0
              have f1 := HF.out.n1
              have f2 := HR.out
              have S1 := HS2.out.sub (l' := [(g9, quA q, 64), (g7, shA t', 61)]) (fun z hz => by simp at hz ⊢; rcases hz with rfl | rfl <;> simp)
              have S2 := S1.setRow g9 (quA q) (quA x) 64 (by simp) HC4.out.1 (l' := [(g7, shA t', 61)]) (fun z hz => ⟨List.mem_cons_of_mem _ hz, by simp at hz; subst hz; have := HC4.out; dsimp only; omega⟩)
              have HS3 := Hd.mk S2
              have HRX : Hd (roundF x = sumS t' 8) := ⟨by unfold roundF; rw [HI2.out.v, HI2.out.sq]; rfl⟩
              clear S1 S2 HS hne HFR
              by_cases hjk : jj = kk
              case pos =>
                subst hjk
                have f3 : 0 ≤ sumS t' 8 := by omega
                have HI3 : Hd (FairI t' jj x 0) := ⟨by have := HI2.out; simpa using this⟩
                go_wp2_with fail
                refine (round43 x _).mono ?_
                rintro e w6 ⟨rfl, hb⟩
                rw [HRX.out]
                have HS4 := Hd.mk (HS3.out.step hb)
                clear hb HS3 HS2 a1 a2 b1 b2 c1 c2 d1 d2 hcell e1 n1
                go_wp2_with fail
                go_roundw
                case rel => exact ⟨j + 1, 0, x, by omega, by go_num, rfl, HI3, HS4⟩
                case measure => simp [intOf]; omega
              case neg =>
                have e2 : ((jj : Int) + 1 == (kk : Int) + 1) = false := by simp; omega
                have e3 : ((jj : Int) == (kk : Int)) = false := by simp; omega
                have HI3 : Hd (FairI t' kk x (since + 1)) := ⟨by have := HI2.out; rw [if_neg (by rw [e2]; simp)] at this; exact this⟩
                have f3 := HI3.out.n1
                clear hjk
                go_wp2_with fail
                refine (round43 x _).mono ?_
                rintro e w6 ⟨rfl, hb⟩
                rw [HRX.out]
                have HS4 := Hd.mk (HS3.out.step hb)
                clear hb HS3 HS2 a1 a2 b1 b2 c1 c2 d1 d2 hcell e1 n1
                go_wp2_with fail
                go_roundw
                case rel => exact ⟨j + 1, since + 1, x, by omega, by go_num, rfl, HI3, HS4⟩
                case measure => simp [intOf]; omega
          · go_wp2_with fail
            go_ret
            exact ⟨rfl, HS.out.below⟩
end Go.Proofs.Ytiebdcejlkeoiaa
