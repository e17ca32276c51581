import Derived.Test.YtcjmejokgoefkaaGreatW1
import Derived.Deep.AppendLies
import Derived.Deep.DeepMust
namespace Go.Proofs.YtcjmejokgoefkaaGreat
open Go.RowKit
set_option linter.unusedSimpArgs false
set_option linter.unusedVariables false
@[irreducible] def mks (t : TypeId) (a b : Value) : Sem Value := Instr.makeSlice t a b
theorem mks_eq (t : TypeId) (a b : Value) : Instr.makeSlice t a b = mks t a b := by unfold mks; rfl
@[go_sem ↓ high] theorem mks52 (a b : Value) : Instr.makeSlice 52 a b = mks 52 a b := mks_eq _ _ _
@[go_sem ↓ high] theorem mks22 (a b : Value) : Instr.makeSlice 22 a b = mks 22 a b := mks_eq _ _ _
@[irreducible] def rw6 : Array Value := #[.int .i64 0, .int .i64 0, .int .i64 0, .int .i64 0, .int .i64 0, .int .i64 0]
@[irreducible] def zb : Array Value := Array.replicate 256 (.int .u8 0)
@[go_sem] theorem run_mk52 (w : World) : (mks 52 (.int .i64 2) (.int .i64 2)).run Tryz.prog w = .ok (.slice (some ⟨w.heap.size, 0, none⟩) 2 2) (w.alloc (.cells rw6 218)) := by rw [← mks_eq]; unfold rw6; kernel_rfl
@[go_sem] theorem run_mk22 (w : World) : (mks 22 (.int .i64 256) (.int .i64 256)).run Tryz.prog w = .ok (.slice (some ⟨w.heap.size, 0, none⟩) 256 256) (w.alloc (.cells zb 5)) := by rw [← mks_eq]; unfold zb; kernel_rfl
@[irreducible] def cvt (t u : TypeId) (a : Value) : Sem Value := convert t u a
theorem cvt_eq (t u : TypeId) (a : Value) : convert t u a = cvt t u a := by unfold cvt; rfl
@[go_sem ↓ high] theorem cvt22 (a : Value) : convert 22 9 a = cvt 22 9 a := cvt_eq _ _ _
def blankS : ByteArray := strOfNums (List.replicate 256 0)
theorem getD_rep (n j : Nat) : (List.replicate n (0 : Int)).getD j 0 = 0 := by
  rw [List.getD_eq_getElem?_getD, List.getElem?_replicate]
  split <;> rfl
set_option maxRecDepth 100000 in
@[go_sem] theorem run_cvt (w : World) (g : Nat) (h : rowAt w g = zb) : (cvt 22 9 (.slice (some ⟨g, 0, none⟩) 256 256)).run Tryz.prog w = .ok (.string blankS) w := by
  rw [← cvt_eq]
  obtain ⟨t, fr, hh⟩ := heap_sized (w := w) (g := g) (n := 255) (by rw [h]; unfold zb; simp)
  exact run_convert_bytes_arg (P := Tryz.prog) w 22 5 Tryz.underlying22 Tryz.underlying5 g 0 256 256 (List.replicate 256 0) (by simp) (fun j hj => by
    rw [cell_of_row w g (0 + j) _ t fr hh, h, getD_rep, Nat.zero_add]
    unfold zb
    rw [Array.getElem?_replicate, if_pos hj]) 9 Tryz.underlying9
set_option maxRecDepth 100000 in
theorem new30 (w : World) : Calls Tryz.prog 30 #[.int .i64 2] w (fun e w' => ∃ gr, e = .returned (.tuple #[.agg #[.slice (some ⟨gr, 0, none⟩) 2 2], .int .i64 0]) ∧ Below w.heap.size w w' ∧ w.heap.size ≤ gr ∧ w'.heap[gr]? = some (.cells rw6 218 (0, 0))) := by
  go_enter Tryz.func30, Tryz.ntmps30
  go_wp2_with fail
  refine bodyPost_ret (v := .tuple #[.agg #[.slice (some ⟨w.heap.size + 1, 0, none⟩) 2 2], .int .i64 0]) (results_ct rfl rfl (by simp (maxDischargeDepth := 6) [go_sem]) rfl) rfl ⟨w.heap.size + 1, rfl, ((Below.refl _ _).alloc (Nat.le_refl _) _).alloc (by simp) _, by omega, ?_⟩
  have := heap_alloc_new (w.alloc (Obj.cells #[Value.slice (some { block := w.heap.size + 1, off := 0 }) 2 2] 54)) (.cells rw6 218)
  simpa using this
theorem bounds33 (gb cb : Nat) (w : World) (hb : w.heap[gb]? = some (.cells #[.int .i64 0] 3 (0, 0))) : Calls Tryz.prog 33 #[.int .i64 2, .slice (some ⟨gb, 0, none⟩) 1 cb] w (Gives (.bool true) w) := by
  have b := cell_of_row w gb 0 _ 3 (0, 0) hb
  simp at b
  go_enter Tryz.func33, Tryz.ntmps33
  go_wp2_with fail
  refine wp_loop_rounds 1 ?_
  rw [rounds_succ]
  go_wp2_with fail
  go_ret
  exact ⟨rfl, Below.refl _ _⟩
theorem heap_new1 (w : World) (o p : Obj) : ((w.alloc o).alloc p).heap[w.heap.size + 1]? = some p := by
  have := heap_alloc_new (w.alloc o) p
  simpa using this
theorem info9r : (Tryz.prog.info? 9).map (fun i => (i.zero, i.size, i.bytes)) = some (some (.string ⟨#[]⟩), 1, 16) := by kernel_rfl
theorem grown_below {B : Nat} {u v w : World} {row : Option Nat} (h : Below B u v) (hg : v.grownBy w row) (hB : B ≤ v.heap.size) (hr : ∀ k, row = some k → B ≤ k) : Below B u w :=
  h.trans ⟨hg.os, hg.tape, hg.output, hg.size, fun k hk => hg.block k (by omega) (fun e => by have := hr k e.symm; omega)⟩
set_option maxRecDepth 100000 in
theorem blanks32 (w : World) : Calls Tryz.prog 32 #[.int .i64 2] w (fun e w' => ∃ gr cp, e = .returned (.slice (some ⟨gr, 0, none⟩) 2 cp) ∧ Below w.heap.size w w' ∧ w'.ownsRow w.heap.size 9 1 (.slice (some ⟨gr, 0, none⟩) 2 cp) 2 [.string blankS, .string blankS]) := by
  obtain ⟨i0, hi, hz0, hz1, hz2⟩ := info_parts info9r
  go_enter Tryz.func32, Tryz.ntmps32
  go_wp2_with fail
  refine wp_loop_rounds 3 ?_
  rw [rounds_succ]
  go_wp2_with (at_builtin; go_must (refine wpList_append_lies _ rfl (.tmp 10) (.tmp 13) 58 rfl w.heap.size 9 i0 (.string ⟨#[]⟩) 1 16 Tryz.underlying58 hi hz0 hz1 hz2 rfl (by decide) (.slice none 0 0) 0 [] rfl (World.ownsRow_nil _ _ _ _) ⟨w.heap.size + 1, 0, none⟩ 1 1 [.string blankS] (by rfl) (by rfl) (World.news_of_block (heap_new1 _ _ _)) (by simp [Value.oneCell']) (by decide) (by decide) (by decide) (by simp; omega) _ rfl ?_); intro g cap w1 hown hgrow hat hlt)
  have B1 : Below w.heap.size w w1 := grown_below (((Below.refl _ _).alloc (Nat.le_refl _) _).alloc (by simp) _) hgrow (by simp; omega) (by simp [Value.ownBlock])
  have hs1 := B1.size
  clear hgrow hat hlt
  rw [rounds_succ]
  go_wp2_with (at_builtin; go_must (refine wpList_append_lies _ rfl (.tmp 10) (.tmp 13) 58 rfl w.heap.size 9 i0 (.string ⟨#[]⟩) 1 16 Tryz.underlying58 hi hz0 hz1 hz2 rfl (by decide) (.slice (some ⟨g, 0, none⟩) 1 cap) 1 [.string blankS] rfl ((hown.alloc _).alloc _) ⟨w1.heap.size + 1, 0, none⟩ 1 1 [.string blankS] (by rfl) (by rfl) (World.news_of_block (heap_new1 _ _ _)) (by simp [Value.oneCell']) (by decide) (by decide) (by decide) (by simp; omega) _ rfl ?_); intro g2 cap2 w2 hown2 hgrow2 hat2 hlt2)
  have B2 : Below w.heap.size w w2 := grown_below ((B1.alloc hs1 _).alloc (by simp; omega) _) hgrow2 (by simp; omega) (fun k hk => (hown.lt k hk).1)
  clear hgrow2 hat2 hlt2
  rw [rounds_succ]
  go_wp2_with fail
  go_ret
  exact ⟨g2, cap2, rfl, B2, hown2⟩
end Go.Proofs.YtcjmejokgoefkaaGreat
