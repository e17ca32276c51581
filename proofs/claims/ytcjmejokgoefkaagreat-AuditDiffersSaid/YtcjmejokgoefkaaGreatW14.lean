import Derived.Test.YtcjmejokgoefkaaGreatW13
import Derived.Test.YtcjmejokgoefkaaGreatSh
namespace Go.Proofs.YtcjmejokgoefkaaGreat
open Go.RowKit
set_option linter.unusedSimpArgs false
set_option linter.unusedVariables false
theorem blank_rep : (⟨(Lib.repeatL (ByteArray.mk #[0]).data.toList 256).toArray⟩ : ByteArray) = blankS := by kernel_rfl
theorem blank196 (w : World) : Calls Tryz.prog 196 #[] w (Gives (.string blankS) w) := by
  go_enter Tryz.func196, Tryz.ntmps196
  go_wp2_with fail
  refine (Tryz.strings_Repeat ⟨#[0]⟩ 256 _ (by decide) (by decide)).mono ?_
  rintro e w1 ⟨rfl, hb⟩
  rw [blank_rep]
  have HB := Hd.mk hb
  clear hb
  go_wp2_with fail
  go_ret
  exact ⟨rfl, HB.out⟩
/-- The page that was never written. -/
def npg (id : Int) : Pg := ⟨id, 0, fun _ => zCl⟩
@[go_sem] theorem run_build32i (w : World) (i : Int) : (bld 32 #[(0, .int .i64 i)]).run Tryz.prog w = .ok (.agg (pgA (npg i))) w := by rw [← bld_eq]; unfold pgA; kernel_rfl
set_option maxRecDepth 100000 in
theorem decode168 (w : World) : Calls Tryz.prog 168 #[.string blankS] w (Gives (.tuple #[.agg (pgA zPg), .int .i64 7]) w) := by
  have hs : ((blankS.size : Int) != 256) = false := by rw [blankS_size]; rfl
  have HS := Hd.mk ((Pre.nil w).alloc (pgA zPg) 32 w.heap.size (by simp))
  go_enter Tryz.func168, Tryz.ntmps168
  go_wp2_with fail
  refine (blank196 _).mono ?_
  rintro e w1 ⟨rfl, hb⟩
  replace HS := Hd.mk (HS.out.step hb)
  clear hb
  obtain ⟨b01, b02, b03, b04, b05, b06, b07, b08⟩ := HS.out.facts w.heap.size (pgA zPg) 32 (by simp)
  go_wp2_with fail
  refine bodyPost_ret (v := .tuple #[.agg (pgA zPg), .int .i64 7]) (results_ct rfl rfl (by simp (maxDischargeDepth := 6) [go_sem, b01, b02]) rfl) rfl ⟨rfl, ?_⟩
  (repeat (first | with_reducible exact Below.refl _ _ | with_reducible exact HS.out.below | (with_reducible refine below_drewN ?_ _) | (with_reducible refine Below.drew ?_) | (with_reducible refine Below.alloc ?_ ?_ _) | (with_reducible refine below_setRow ?_ ?_ _)))
  all_goals first | omega | (simp; omega) | (simp; done)
set_option maxRecDepth 100000 in
theorem new160 (id : Int) (w : World) : Calls Tryz.prog 160 #[.int .i64 id] w (Gives (.agg (pgA (npg id))) w) := by
  have HS := Hd.mk ((Pre.nil w).alloc (pgA zPg) 32 w.heap.size rfl)
  obtain ⟨b01, b02, b03, b04, b05, b06, b07, b08⟩ := HS.out.facts w.heap.size (pgA zPg) 32 (by simp)
  go_enter Tryz.func160, Tryz.ntmps160
  go_wp2_with fail
  refine bodyPost_ret (v := .agg (pgA (npg id))) (results_c rfl rfl (by simp (maxDischargeDepth := 6) [go_sem, b01, b02])) rfl ⟨rfl, ?_⟩
  exact (Below.refl _ _).alloc (Nat.le_refl _) _
set_option maxRecDepth 100000 in
theorem identify144 (id : Int) (w : World) (h0 : 0 ≤ id) (h1 : id ≤ 1) : Calls Tryz.prog 144 #[.string blankS, .int .i64 id] w (Gives (.tuple #[.agg (pgA (npg id)), .int .i64 0]) w) := by
  have HS := Hd.mk ((Pre.nil w).alloc (pgA zPg) 32 w.heap.size (by simp))
  go_enter Tryz.func144, Tryz.ntmps144
  go_wp2_with fail
  refine (named166 id _ h0 h1).mono ?_
  rintro e w1 ⟨rfl, hb⟩
  replace HS := Hd.mk (HS.out.step hb)
  clear hb
  obtain ⟨b01, b02, b03, b04, b05, b06, b07, b08⟩ := HS.out.facts w.heap.size (pgA zPg) 32 (by simp)
  go_wp2_with fail
  refine (decode168 _).mono ?_
  rintro e w2 ⟨rfl, hb⟩
  replace HS := Hd.mk (HS.out.step hb)
  clear hb b01 b02 b03 b04 b05 b06 b07 b08
  obtain ⟨b01, b02, b03, b04, b05, b06, b07, b08⟩ := HS.out.facts w.heap.size (pgA zPg) 32 (by simp)
  go_wp2_with fail
  replace HS := Hd.mk (HS.out.alloc (pgA zPg) 32 w2.heap.size (by simp))
  refine (new160 id _).mono ?_
  rintro e w3 ⟨rfl, hb⟩
  replace HS := Hd.mk (HS.out.step hb)
  clear hb b01 b02 b03 b04 b05 b06 b07 b08
  obtain ⟨b01, b02, b03, b04, b05, b06, b07, b08⟩ := HS.out.facts w.heap.size (pgA zPg) 32 (by simp)
  go_wp2_with fail
  refine bodyPost_ret (v := .tuple #[.agg (pgA (npg id)), .int .i64 0]) (results_ct rfl rfl (by simp (maxDischargeDepth := 6) [go_sem, b01, b02]) rfl) rfl ⟨rfl, ?_⟩
  (repeat (first | with_reducible exact Below.refl _ _ | with_reducible exact HS.out.below | (with_reducible refine below_drewN ?_ _) | (with_reducible refine Below.drew ?_) | (with_reducible refine Below.alloc ?_ ?_ _) | (with_reducible refine below_setRow ?_ ?_ _)))
  all_goals first | omega | (simp; omega) | (simp; done)
@[go_sem] theorem npg_lsn (i : Int) : (npg i).lsn = 0 := rfl
@[go_sem] theorem npg_id (i : Int) : (npg i).id = i := rfl
set_option maxRecDepth 100000 in
theorem judge175 (gr : Nat) (id : Int) (w : World) (hr : w.heap[gr]? = some (.cells rw6 218 (0, 0))) (h0 : 0 ≤ id) (h1 : id ≤ 1) : Calls Tryz.prog 175 #[.agg #[.slice (some ⟨gr, 0, none⟩) 2 2], .int .i64 id, .int .i64 0, .string blankS] w (Gives (.tuple #[.agg (pgA (npg id)), .int .i64 0]) w) := by
  have HR := Hd.mk hr
  clear hr
  have HS := Hd.mk (((Pre.nil w).alloc (#[.slice (some ⟨gr, 0, none⟩) 2 2]) 54 w.heap.size (by simp)).alloc (pgA zPg) 32 (w.heap.size + 1) (by simp))
  obtain rfl | rfl := two h0 h1
  all_goals
    go_enter Tryz.func175, Tryz.ntmps175
    go_wp2_with fail
    refine (valid58 gr _ (row_of HR.out HS.out.below)).mono ?_
    rintro e w1 ⟨rfl, hb⟩
    replace HS := Hd.mk (HS.out.step hb)
    clear hb
    obtain ⟨b01, b02, b03, b04, b05, b06, b07, b08⟩ := HS.out.facts w.heap.size (#[.slice (some ⟨gr, 0, none⟩) 2 2]) 54 (by simp)
    obtain ⟨b11, b12, b13, b14, b15, b16, b17, b18⟩ := HS.out.facts (w.heap.size + 1) (pgA zPg) 32 (by simp)
    go_wp2_with fail
    refine (there200 gr _ _ (by omega) (by omega)).mono ?_
    rintro e w2 ⟨rfl, hb⟩
    replace HS := Hd.mk (HS.out.step hb)
    clear hb b01 b02 b03 b04 b05 b06 b07 b08 b11 b12 b13 b14 b15 b16 b17 b18
    obtain ⟨b01, b02, b03, b04, b05, b06, b07, b08⟩ := HS.out.facts w.heap.size (#[.slice (some ⟨gr, 0, none⟩) 2 2]) 54 (by simp)
    obtain ⟨b11, b12, b13, b14, b15, b16, b17, b18⟩ := HS.out.facts (w.heap.size + 1) (pgA zPg) 32 (by simp)
    go_wp2_with fail
    refine (identify144 _ _ (by omega) (by omega)).mono ?_
    rintro e w3 ⟨rfl, hb⟩
    replace HS := Hd.mk (HS.out.step hb)
    clear hb b01 b02 b03 b04 b05 b06 b07 b08 b11 b12 b13 b14 b15 b16 b17 b18
    obtain ⟨b01, b02, b03, b04, b05, b06, b07, b08⟩ := HS.out.facts w.heap.size (#[.slice (some ⟨gr, 0, none⟩) 2 2]) 54 (by simp)
    obtain ⟨b11, b12, b13, b14, b15, b16, b17, b18⟩ := HS.out.facts (w.heap.size + 1) (pgA zPg) 32 (by simp)
    obtain ⟨c5, c0, c1⟩ := rows_cells HR.out HS.out.below
    go_wp2_with fail
    refine bodyPost_ret (v := .tuple #[.agg (pgA (npg _)), .int .i64 0]) (results_ct rfl rfl (by simp (maxDischargeDepth := 6) [go_sem, b11, b12]) rfl) rfl ⟨rfl, ?_⟩
    (repeat (first | with_reducible exact Below.refl _ _ | with_reducible exact HS.out.below | (with_reducible refine below_drewN ?_ _) | (with_reducible refine Below.drew ?_) | (with_reducible refine Below.alloc ?_ ?_ _) | (with_reducible refine below_setRow ?_ ?_ _)))
    all_goals first | omega | (simp; omega) | (simp; done)
end Go.Proofs.YtcjmejokgoefkaaGreat
