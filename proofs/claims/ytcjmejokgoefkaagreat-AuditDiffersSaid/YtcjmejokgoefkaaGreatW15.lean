import Derived.Test.YtcjmejokgoefkaaGreatW14
import Derived.Deep.RegionWith
namespace Go.Proofs.YtcjmejokgoefkaaGreat
open Go.RowKit
set_option linter.unusedSimpArgs false
set_option linter.unusedVariables false
theorem Pre.turn {B : Nat} {w0 w w' : World} {l : Ents} (h : Pre B w0 l w) {g : Nat} {a : Array Value} {t : TypeId} (hg : w'.heap[g]? = some (.cells a t (0, 0))) (hB : B ≤ g) (hs : w'.heap.size = w.heap.size) (ho : w'.os = w.os) (ht : w'.tape = w.tape) (hu : w'.output = w.output)
    (hk : ∀ k, k ≠ g → w'.heap[k]? = w.heap[k]?) {l' : Ents} (hl : ∀ x ∈ l', x ∈ l ∧ x.1 ≠ g) : Pre B w0 ((g, a, t) :: l') w' := by
  refine ⟨h.below.trans ⟨ho, ht, hu, by omega, fun k hk' => hk k (by omega)⟩, h.hB, fun x hx => ?_⟩
  rcases List.mem_cons.1 hx with rfl | hx
  · exact ⟨hB, hg⟩
  · exact ⟨(h.mem x (hl x hx).1).1, by rw [hk x.1 (hl x hx).2]; exact (h.mem x (hl x hx).1).2⟩
theorem Pre.setCell {B : Nat} {w0 w : World} {l : Ents} (h : Pre B w0 l w) (g : Nat) (a : Array Value) (t : TypeId) (hm : (g, a, t) ∈ l) (i : Nat) (v : Value) {l' : Ents} (hl : ∀ x ∈ l', x ∈ l ∧ x.1 ≠ g) : Pre B w0 ((g, a.setIfInBounds i v, t) :: l') (w.setCell ⟨g, i, none⟩ v) :=
  h.turn (heap_setCell_same w g i a t v (h.mem _ hm).2) (h.mem _ hm).1 (by simp) rfl rfl rfl (fun k hk => Below.heap_setCell _ _ _ _ hk) hl
theorem Pre.setRow {B : Nat} {w0 w : World} {l : Ents} (h : Pre B w0 l w) (g : Nat) (a a' : Array Value) (t : TypeId) (hm : (g, a, t) ∈ l) {l' : Ents} (hl : ∀ x ∈ l', x ∈ l ∧ x.1 ≠ g) : Pre B w0 ((g, a', t) :: l') (w.setRow g a') :=
  h.turn (setRow_heap w g a a' t (0, 0) (h.mem _ hm).2) (h.mem _ hm).1 (by simp) rfl rfl rfl (fun k hk => setRow_other _ _ _ _ hk) hl
@[go_sem] theorem frozen_setRow (w : World) (g k o : Nat) (c : Array Value) (h : live w k = true) : (w.setRow g c).frozen? ⟨k, o, none⟩ = false := by
  obtain ⟨t, hh⟩ := heap_of_live (live_setRow w g k c h)
  exact frozen_of_row _ k o _ t hh
@[go_sem] theorem cell_setRow_other (w : World) (g k o : Nat) (c : Array Value) (h : k ≠ g) : (w.setRow g c).cell? ⟨k, o, none⟩ = w.cell? ⟨k, o, none⟩ :=
  World.cell?_of_block (w := w) (setRow_other _ _ _ _ h)
@[go_sem] theorem cell_setRow_same (w : World) (g o : Nat) (c : Array Value) (h : live w g = true) : (w.setRow g c).cell? ⟨g, o, none⟩ = c[o]? := by
  obtain ⟨t, hh⟩ := heap_of_live h
  exact cell_of_row _ g o c t _ (setRow_heap w g _ c t _ hh)
set_option maxRecDepth 100000 in
set_option maxHeartbeats 4000000 in
theorem look148 (gr : Nat) (id : Int) (w : World) (hr : w.heap[gr]? = some (.cells rw6 218 (0, 0))) (h0 : 0 ≤ id) (h1 : id ≤ 1) : Calls Tryz.prog 148 #[.agg (kerA gr), .int .i64 id, .string blankS, .int .i64 0] w (Gives (.tuple #[.agg (pgA (npg id)), .int .i64 0]) w) := by
  have HR := Hd.mk hr
  clear hr
  have q1 : decide (id < 0) = false := by simp; omega
  have q2 : decide (2 ≤ id) = false := by simp; omega
  have HS := Hd.mk (((Pre.nil w).alloc (kerA gr) 57 w.heap.size (by simp)).alloc (pgA zPg) 32 (w.heap.size + 1) (by simp))
  go_enter Tryz.func148, Tryz.ntmps148
  go_wp2_with fail
  refine (valid36 gr _ (row_of HR.out HS.out.below)).mono ?_
  rintro e w1 ⟨rfl, hb⟩
  replace HS := Hd.mk (HS.out.step hb)
  clear hb
  obtain ⟨b01, b02, b03, b04, b05, b06, b07, b08⟩ := HS.out.facts w.heap.size (kerA gr) 57 (by simp)
  obtain ⟨b11, b12, b13, b14, b15, b16, b17, b18⟩ := HS.out.facts (w.heap.size + 1) (pgA zPg) 32 (by simp)
  go_wp2_with fail
  go_region_with (first | (go_at_call 79; (first | ((with_reducible refine (head79 gr _ _ (row_of HR.out (HS.out.step (Below.refl _ _).drew).below) (by omega) (by omega)).mono ?_); rintro e v ⟨rfl, hb⟩; have S := (HS.out.step (Below.refl _ _).drew).step hb) | ((with_reducible refine (head79 gr _ _ (row_of HR.out ((HS.out.alloc (pgA zPg) 32 w1.heap.size rfl).step (Below.refl _ _).drew).below) (by omega) (by omega)).mono ?_); rintro e v ⟨rfl, hb⟩; have S := ((HS.out.alloc (pgA zPg) 32 w1.heap.size rfl).step (Below.refl _ _).drew).step hb)); have HT := Hd.mk S; clear S hb; obtain ⟨d01, d02, d03, d04, d05, d06, d07, d08⟩ := HT.out.facts w.heap.size (kerA gr) 57 (by simp); obtain ⟨d11, d12, d13, d14, d15, d16, d17, d18⟩ := HT.out.facts (w.heap.size + 1) (pgA zPg) 32 (by simp); (try obtain ⟨d91, d92, d93, d94, d95, d96, d97, d98⟩ := HT.out.facts w1.heap.size (pgA zPg) 32 (List.Mem.head _))) | (go_at_call 175; (first | ((with_reducible refine (judge175 gr _ _ (row_of HR.out HT.out.below) (by omega) (by omega)).mono ?_); rintro e u ⟨rfl, hb⟩; have S := HT.out.step hb) | ((with_reducible refine (judge175 gr _ _ (row_of HR.out (HT.out.alloc (pgA zPg) 32 v.heap.size rfl).below) (by omega) (by omega)).mono ?_); rintro e u ⟨rfl, hb⟩; have S := (HT.out.alloc (pgA zPg) 32 v.heap.size rfl).step hb)); have HU := Hd.mk S; clear S hb; obtain ⟨f01, f02, f03, f04, f05, f06, f07, f08⟩ := HU.out.facts w.heap.size (kerA gr) 57 (by simp); obtain ⟨f11, f12, f13, f14, f15, f16, f17, f18⟩ := HU.out.facts (w.heap.size + 1) (pgA zPg) 32 (by simp); (first | (obtain ⟨f91, f92, f93, f94, f95, f96, f97, f98⟩ := HU.out.facts w1.heap.size (pgA zPg) 32 (List.Mem.head _)) | (obtain ⟨f91, f92, f93, f94, f95, f96, f97, f98⟩ := HU.out.facts v.heap.size (pgA zPg) 32 (List.Mem.head _)) | skip)))
  all_goals
    go_wp2_with fail
    refine bodyPost_ret (v := .tuple #[.agg (pgA (npg id)), .int .i64 0]) (results_ct rfl rfl (by simp (maxDischargeDepth := 6) [go_sem, f11, f12]) rfl) rfl ⟨rfl, ?_⟩
    (repeat (first | with_reducible exact Below.refl _ _ | with_reducible exact HU.out.below | (with_reducible refine below_drewN ?_ _) | (with_reducible refine Below.drew ?_) | (with_reducible refine Below.alloc ?_ ?_ _) | (with_reducible refine below_setRow ?_ ?_ _)))
    all_goals first | omega | (simp; omega) | (simp; done)
end Go.Proofs.YtcjmejokgoefkaaGreat
