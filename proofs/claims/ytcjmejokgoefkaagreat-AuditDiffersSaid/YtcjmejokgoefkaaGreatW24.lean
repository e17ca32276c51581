import Derived.Test.YtcjmejokgoefkaaGreatW23
import Derived.RangeFuncNested
import Derived.RangeFuncBound
import Derived.RangeFuncCalls
import Derived.RangeFuncLeaves
import Derived.Shelf.Abstract
import Derived.Shelf.RegionOpen
import Derived.OwnWalkIn
import Derived.TacticsInMore
import Derived.LoopNIn
import Derived.LoopIn
namespace Go.Proofs.YtcjmejokgoefkaaGreat
open Go.RowKit Go.Shelf
set_option linter.unusedSimpArgs false
set_option linter.unusedVariables false
attribute [local go_sem] Oper.semAt_some

/-- Some blocks are as they were. -/
structure KeepsL (L : List Nat) (W W' : World) : Prop where
  size : W.heap.size ≤ W'.heap.size
  same : ∀ k ∈ L, W'.heap[k]? = W.heap[k]?
theorem KeepsL.refl (L : List Nat) (W : World) : KeepsL L W W := ⟨Nat.le_refl _, fun _ _ => rfl⟩
theorem KeepsL.trans {L : List Nat} {A B C : World} (h : KeepsL L A B) (k : KeepsL L B C) : KeepsL L A C := ⟨Nat.le_trans h.size k.size, fun i hi => (k.same i hi).trans (h.same i hi)⟩
theorem keepsL_b {L : List Nat} {w : World} (hL : ∀ k ∈ L, k < w.heap.size) (W : World) (l : Nat) (o o' : Obj) (hl : w.heap.size ≤ l) (_ : W.heap[l]? = some o) (_ : o.isCells = false) (_ : o.isWalk = false) : KeepsL L W (W.putObj l o') :=
  ⟨(grownBy_putObj' W l o').size, fun k hk => World.putObj_heap_other (by have := hL k hk; omega)⟩
theorem KeepsL.of_grownBy {L : List Nat} {W W' : World} {row : Option Nat} (hg : W.grownBy W' row) (hL : ∀ k ∈ L, k < W.heap.size ∧ some k ≠ row) : KeepsL L W W' :=
  ⟨hg.size, fun k hk => hg.block k (hL k hk).1 (hL k hk).2⟩
/-- The new database in its box, and its blocks. -/
structure DbAt (gx gr gp cp gb cb : Nat) (w : World) : Prop where
  x : w.heap[gx]? = some (.cells (dbA gr gp cp gb cb) 84 (0, 0))
  c : DbC gr gp gb w
section
variable {gx gr gp cp gb cb : Nat} {w w' : World}
theorem DbAt.keep (h : DbAt gx gr gp cp gb cb w) (hk : KeepsL [gx, gr, gp, gb] w w') : DbAt gx gr gp cp gb cb w' := by
  obtain ⟨h6, ⟨h7, ⟨h8, h9, h10⟩, ⟨h11, h12⟩⟩⟩ := h
  have hs := hk.size
  exact ⟨(hk.same gx (by simp)).trans h6, ⟨(hk.same gr (by simp)).trans h7, ⟨by omega, (World.cell?_of_block (w := w) (hk.same gp (by simp))).trans h9, (World.cell?_of_block (w := w) (hk.same gp (by simp))).trans h10⟩, ⟨by omega, (World.cell?_of_block (w := w) (hk.same gb (by simp))).trans h12⟩⟩⟩
theorem DbAt.lt (h : DbAt gx gr gp cp gb cb w) : ∀ k ∈ [gx, gr, gp, gb], k < w.heap.size := by
  have h1 := (Array.getElem?_eq_some_iff.1 h.x).1
  have h2 := (Array.getElem?_eq_some_iff.1 h.c.r).1
  have h3 := h.c.p.1
  have h4 := h.c.b.1
  intro k hk
  simp at hk
  rcases hk with rfl | rfl | rfl | rfl <;> assumption
theorem DbAt.step (h : DbAt gx gr gp cp gb cb w) (hb : Below w.heap.size w w') : DbAt gx gr gp cp gb cb w' :=
  h.keep ⟨hb.size, fun k hk => hb.block k (h.lt k hk)⟩
theorem DbAt.facts (h : DbAt gx gr gp cp gb cb w) : rowAt w gx = dbA gr gp cp gb cb ∧ (∀ o, w.cell? ⟨gx, o, none⟩ = (dbA gr gp cp gb cb)[o]?) := ⟨(blk h.x).1, (blk h.x).2.2.1⟩
end
theorem abides_below {β : Type} {B : Nat} {J : β → World → Prop} (hJ : AbidesFrom B J) {s : β} {W W' : World} (h : J s W) (hb : Below W.heap.size W W') : J s W' :=
  hJ s W W' none h ⟨hb.os, hb.tape, hb.output, hb.size, fun k hk _ => hb.block k hk⟩ (fun r e => by cases e)

set_option maxRecDepth 100000 in
set_option maxHeartbeats 4000000 in
theorem pages22 (gr gp cp gb cb : Nat) (w : World) : Calls Tryz.prog 22 #[.agg (dbA gr gp cp gb cb)] w (fun e w' => e = .returned (.func (.func 45) #[] #[.pointer (some ⟨w.heap.size, 0, none⟩)]) ∧ w' = w.alloc (.cells (dbA gr gp cp gb cb) 84)) := by
  go_enter Tryz.func22, Tryz.ntmps22
  go_wp2_with fail
  go_ret
  exact ⟨rfl, rfl⟩
/-- What the iterator gives: both pages, as they were never written. -/
def encP (x : Nat) : Array Value := #[.agg (pgA (npg (x : Int))), .int .i64 0]
set_option maxRecDepth 100000 in
set_option maxHeartbeats 4000000 in
theorem pages45 (n : Nat) (hn : 1 ≤ n) (gx gr gp cp gb cb : Nat) (w : World) (hd : DbAt gx gr gp cp gb cb w) :
    SeqStopsK Fence.wide n Tryz.prog 45 #[.pointer (some ⟨gx, 0, none⟩)] encP (KeepsL [gx, gr, gp, gb]) (fun xs => xs = [0, 1]) (fun pre => True) 2 w := fun l J Jx W hW hJ hJx hY h0 => by
  have HD := Hd.mk (hd.step hW)
  clear hd
  refine callsIn_of_wp Tryz.func45 rfl trivial ?_ rfl
  simp only [Tryz.ntmps45, List.size_toArray, List.length_cons, List.length_nil, Nat.reduceAdd, Nat.reduceSub, Array.replicate_succ, Array.replicate_zero, List.push_toArray, List.append_toArray, List.nil_append, List.cons_append]
  obtain ⟨a1, a2⟩ := HD.out.facts
  gi_wp2
  clear a1 a2
  gi_loopw [7] (fun v wr => ∃ k : Nat, k ≤ 2 ∧ v = .int .i64 (k : Int) ∧ Hd (J (List.range k) wr ∧ DbAt gx gr gp cp gb cb wr)) (fun v _ => 2 - (intOf v).toNat)
  case atStart => exact ⟨0, by omega, rfl, ⟨h0, HD.out⟩⟩
  case round =>
    obtain ⟨k, hk, rfl, HO⟩ := hrel
    by_cases hlt : k < 2
    · obtain ⟨a1, a2⟩ := HO.out.2.facts
      gi_wp2_with fail
      refine ⟨trivial, ?_⟩
      refine (callsIn_wide.2 (now46 gr gp cp gb cb _ _ HO.out.2.c (by omega) (by omega))).mono ?_
      rintro e w1 ⟨rfl, hb⟩
      have HO1 : Hd (J (List.range k) w1 ∧ DbAt gx gr gp cp gb cb w1) := ⟨abides_below hJ HO.out.1 hb, HO.out.2.step hb⟩
      obtain ⟨fn, tmps, assign, body, hy, hR⟩ := hY (List.range k) k w1 HO1.out.1 (by simp; omega)
      unfold encP at hy
      clear a1 a2 hb
      gi_wp2
      refine hR.mono ?_
      rintro e w2 (⟨rfl, hJ2, hk2⟩ | ⟨rfl, hJx2⟩)
      · have HO2 : Hd (J (List.range (k + 1)) w2 ∧ DbAt gx gr gp cp gb cb w2) := ⟨by rw [List.range_succ]; exact hJ2, HO1.out.2.keep hk2⟩
        clear hJ2 hk2
        gi_wp2
        go_roundw
        case rel => exact ⟨k + 1, by omega, by go_num, HO2⟩
        case measure => simp [intOf]; omega
      · have HX := Hd.mk hJx2
        clear hJx2
        gi_wp2
        refine bodyPost_ret (results_none rfl _ _ _) rfl ?_
        exact ⟨⟨_, rfl⟩, .inr ⟨_, trivial, HX.out⟩⟩
    · obtain rfl : k = 2 := by omega
      gi_wp2
      go_end0
      exact ⟨⟨_, rfl⟩, .inl ⟨[0, 1], rfl, HO.out.1⟩⟩
end Go.Proofs.YtcjmejokgoefkaaGreat
