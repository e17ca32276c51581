import Derived.Test.YtcjmejokgoefkaaGreatW30
import Derived.Laws.OwnMore
namespace Go.Proofs.YtcjmejokgoefkaaGreat
open Go.RowKit
set_option linter.unusedSimpArgs false
set_option linter.unusedVariables false
/-! ### two slices of rows that the law owns, while it draws -/
structure Two (c B base : Nat) (w0 : World) (L : Ents) (va : Value) (na : Nat) (xs : List Value) (vb : Value) (nb : Nat) (ys : List Value) (W : World) : Prop where
  sk : Sk c B w0 L W
  hc : c < base
  hb : base ≤ W.heap.size
  oa : W.ownsRow base 30 32 va na xs
  ob : W.ownsRow base 30 32 vb nb ys
  dab : ∀ k, va.ownBlock = some k → vb.ownBlock ≠ some k
  da : ∀ k, va.ownBlock = some k → ∀ x ∈ L, x.1 ≠ k
  db : ∀ k, vb.ownBlock = some k → ∀ x ∈ L, x.1 ≠ k
section
variable {c B base : Nat} {w0 W W' : World} {L : Ents} {va vb : Value} {na nb : Nat} {xs ys : List Value}
theorem Two.dr (h : Two c B base w0 L va na xs vb nb ys W) (hd : Dr c W W') : Two c B base w0 L va na xs vb nb ys W' :=
  ⟨h.sk.dr hd, h.hc, Nat.le_trans h.hb hd.size, own_dr h.oa hd h.hc, own_dr h.ob hd h.hc, h.dab, h.da, h.db⟩
theorem Two.step (h : Two c B base w0 L va na xs vb nb ys W) (hb : Below W.heap.size W W') : Two c B base w0 L va na xs vb nb ys W' := h.dr (Dr.of_below hb)
theorem Two.drew (h : Two c B base w0 L va na xs vb nb ys W) : Two c B base w0 L va na xs vb nb ys W.drew := h.dr (Dr.drew c W)
theorem Two.alloc (h : Two c B base w0 L va na xs vb nb ys W) (a : Array Value) (t : TypeId) (g : Nat) (hg : g = W.heap.size) : Two c B base w0 ((g, a, t) :: L) va na xs vb nb ys (W.alloc (.cells a t)) := by
  subst hg
  have h1 := h.dr (Dr.alloc c W (.cells a t))
  refine ⟨h.sk.alloc a t _ rfl, h1.hc, h1.hb, h1.oa, h1.ob, h1.dab, fun k hk x hx => ?_, fun k hk x hx => ?_⟩
  · rcases List.mem_cons.1 hx with rfl | hx
    · exact Nat.ne_of_gt (h.oa.lt k hk).2
    · exact h.da k hk x hx
  · rcases List.mem_cons.1 hx with rfl | hx
    · exact Nat.ne_of_gt (h.ob.lt k hk).2
    · exact h.db k hk x hx
theorem Two.swap (h : Two c B base w0 L va na xs vb nb ys W) : Two c B base w0 L vb nb ys va na xs W :=
  ⟨h.sk, h.hc, h.hb, h.ob, h.oa, fun k hk e => h.dab k e hk, h.db, h.da⟩
theorem Two.sub (h : Two c B base w0 L va na xs vb nb ys W) {L' : Ents} (hs : ∀ x ∈ L', x ∈ L) : Two c B base w0 L' va na xs vb nb ys W :=
  ⟨h.sk.sub hs, h.hc, h.hb, h.oa, h.ob, h.dab, fun k hk x hx => h.da k hk x (hs x hx), fun k hk x hx => h.db k hk x (hs x hx)⟩
theorem Sk.grown (h : Sk c B w0 L W) {row : Option Nat} (hg : W.grownBy W' row) (hr : ∀ k, row = some k → c < k ∧ ∀ x ∈ L, x.1 ≠ k) : Sk c B w0 L W' := by
  have hcl := h.cds.lt
  have hBw := h.hBw
  have hc := h.hc
  refine ⟨h.cds.of_block fun k hk => hg.block k (by omega) (fun e => by have := (hr k e.symm).1; omega), h.below.trans ⟨hg.os, hg.tape, hg.output, hg.size, fun k hk => hg.block k (by omega) (fun e => by have := (hr k e.symm).1; omega)⟩, h.hB, h.hc, fun x hx => ⟨(h.mem x hx).1, ?_⟩⟩
  rw [hg.block x.1 (h.lt hx) (fun e => (hr x.1 e.symm).2 x hx rfl)]
  exact (h.mem x hx).2
theorem Two.appA (h : Two c B base w0 L va na xs vb nb ys W) {g n' cap' : Nat} {xs' : List Value} (hown : W'.ownsRow base 30 32 (.slice (some ⟨g, 0, none⟩) n' cap') n' xs') (hg : W.grownBy W' va.ownBlock) (hat : va.ownBlock = some g ∨ g = W.heap.size) : Two c B base w0 L (.slice (some ⟨g, 0, none⟩) n' cap') n' xs' vb nb ys W' := by
  have hc := h.hc
  refine ⟨h.sk.grown hg fun k hk => ⟨by have := (h.oa.lt k hk).1; omega, h.da k hk⟩, h.hc, Nat.le_trans h.hb hg.size, hown, h.ob.kept hg ?_, fun k hk => ?_, fun k hk x hx => ?_, h.db⟩
  · cases hb : vb.ownBlock with
    | none => exact .inl rfl
    | some k => exact .inr (fun e => h.dab k e.symm hb)
  · obtain rfl : g = k := by simpa [Value.ownBlock] using hk
    rcases hat with hat | rfl
    · exact h.dab g hat
    · exact fun e => Nat.lt_irrefl _ (h.ob.lt _ e).2
  · obtain rfl : g = k := by simpa [Value.ownBlock] using hk
    rcases hat with hat | rfl
    · exact h.da g hat x hx
    · exact Nat.ne_of_lt (h.sk.lt hx)
theorem Two.appB (h : Two c B base w0 L va na xs vb nb ys W) {g n' cap' : Nat} {ys' : List Value} (hown : W'.ownsRow base 30 32 (.slice (some ⟨g, 0, none⟩) n' cap') n' ys') (hg : W.grownBy W' vb.ownBlock) (hat : vb.ownBlock = some g ∨ g = W.heap.size) : Two c B base w0 L va na xs (.slice (some ⟨g, 0, none⟩) n' cap') n' ys' W' :=
  (h.swap.appA hown hg hat).swap
theorem Two.rows (h : Two c B base w0 L va na xs vb nb ys W) {fs gs : List (Nat → Cl)} (h1 : na = fs.length) (h2 : xs = flatR fs) (h3 : nb = gs.length) (h4 : ys = flatR gs) : RowsAt W va fs ∧ RowsAt W vb gs := by
  subst h1 h2 h3 h4
  have weak : ∀ {v : Value} {n : Nat} {zs : List Value}, W.ownsRow base 30 32 v n zs → W.ownsRow 0 30 32 v n zs := fun h => by
    refine ⟨h.1, ?_⟩
    rcases h.2 with hn | ⟨g, cap, cur, e, hb, rest⟩
    · exact .inl hn
    · exact .inr ⟨g, cap, cur, e, Nat.zero_le _, rest⟩
  exact ⟨weak h.oa, weak h.ob⟩
end
theorem run_bslA (w : World) (f : Nat → Cl) : (bsl 26 1 #[(0, .agg (clA f))]).run Tryz.prog w = .ok (.slice (some ⟨w.heap.size, 0, none⟩) 1 1) (w.alloc (.cells (clA f) 30)) := by
  rw [← bsl_eq]
  unfold clA
  kernel_rfl
attribute [go_sem] run_bslA
theorem info30z : (Tryz.prog.info? 30).map (fun i => (i.zero, i.size, i.bytes)) = some (some (.agg (clA zR)), 32, 384) := by
  unfold clA
  kernel_rfl
/-! ### a cell stored into a slice of rows -/
def updF (f : Nat → Cl) (s : Nat) (x : Cl) : Nat → Cl := fun i => if i = s then x else f i
theorem clA_upd (f : Nat → Cl) (s : Nat) (x : Cl) (h : s < 16) : ((clA f).toList.set (s * 2) (.bool x.set)).set (s * 2 + 1) (.string x.data) = (clA (updF f s x)).toList := by
  unfold clA updF
  rcases s with _|_|_|_|_|_|_|_|_|_|_|_|_|_|_|_|s <;> first | rfl | omega
theorem flatR_upd : ∀ (fs : List (Nat → Cl)) (r s : Nat) (x : Cl), r < fs.length → s < 16 →
    ((flatR fs).set (r * 32 + s * 2) (.bool x.set)).set (r * 32 + s * 2 + 1) (.string x.data) = flatR (fs.set r (updF (rowL fs r) s x))
  | [], r, s, x, hr, _ => by simp at hr
  | f :: fs, 0, s, x, _, hs => by
    have e : ∀ g : Nat → Cl, flatR (g :: fs) = (clA g).toList ++ flatR fs := fun g => List.flatMap_cons
    rw [e, Nat.zero_mul, Nat.zero_add, List.set_append_left _ _ (by rw [clA_len]; omega), List.set_append_left _ _ (by simp only [List.length_set, clA_len]; omega), clA_upd f s x hs, List.set_cons_zero, e]
    rfl
  | f :: fs, r + 1, s, x, hr, hs => by
    have ih := flatR_upd fs r s x (by simpa using hr) hs
    have e : ∀ gs : List (Nat → Cl), flatR (f :: gs) = (clA f).toList ++ flatR gs := fun g => List.flatMap_cons
    rw [e, List.set_append_right _ _ (by rw [clA_len]; omega), List.set_append_right _ _ (by rw [clA_len]; omega), clA_len, show (r + 1) * 32 + s * 2 - 32 = r * 32 + s * 2 by omega, show (r + 1) * 32 + s * 2 + 1 - 32 = r * 32 + s * 2 + 1 by omega, ih, List.set_cons_succ, e]
    rfl
section
variable {c B base : Nat} {w0 W W' : World} {L : Ents} {va vb : Value} {na nb : Nat} {xs ys : List Value}
theorem Two.stored {g n cap : Nat} (h : Two c B base w0 L va na xs (.slice (some ⟨g, 0, none⟩) n cap) nb ys W) (hn : n = nb) (j : Nat) (u : Value) : Two c B base w0 L va na xs (.slice (some ⟨g, 0, none⟩) n cap) nb (ys.set j u) (W.setCell ⟨g, j, none⟩ u) := by
  subst hn
  obtain ⟨h1, h2⟩ := h.ob.stored j u
  have hc := h.hc
  refine ⟨h.sk.grown h2 fun k hk => ⟨by have := (h.ob.lt k hk).1; omega, h.db k hk⟩, h.hc, Nat.le_trans h.hb h2.size, h.oa.kept h2 ?_, h1, h.dab, h.da, h.db⟩
  cases ha : va.ownBlock with
  | none => exact .inl rfl
  | some k => exact .inr (fun e => h.dab k ha e.symm)
theorem Two.cell {g n cap : Nat} {gs : List (Nat → Cl)} (h : Two c B base w0 L va na xs (.slice (some ⟨g, 0, none⟩) n cap) gs.length (flatR gs) W) (hn : n = gs.length) (r s : Nat) (x : Cl) (hr : r < gs.length) (hs : s < 16) :
    Two c B base w0 L va na xs (.slice (some ⟨g, 0, none⟩) n cap) (gs.set r (updF (rowL gs r) s x)).length (flatR (gs.set r (updF (rowL gs r) s x))) ((W.setCell ⟨g, r * 32 + s * 2, none⟩ (.bool x.set)).setCell ⟨g, r * 32 + s * 2 + 1, none⟩ (.string x.data)) := by
  have h1 := (h.stored hn (r * 32 + s * 2) (.bool x.set)).stored hn (r * 32 + s * 2 + 1) (.string x.data)
  rw [flatR_upd gs r s x hr hs] at h1
  rw [List.length_set]
  exact h1
end
end Go.Proofs.YtcjmejokgoefkaaGreat
