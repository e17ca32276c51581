import Derived.Test.YtcjmejokgoefkaaGreatW9
namespace Go.Proofs.YtcjmejokgoefkaaGreat
open Go.RowKit
set_option linter.unusedSimpArgs false
set_option linter.unusedVariables false
theorem blankS_size : blankS.size = 256 := by kernel_rfl
theorem len68 (w : World) : Calls Tryz.prog 68 #[.string blankS] w (Gives (.bool false) w) := by
  have h' : ((blankS.size : Int) != 256) = false := by rw [blankS_size]; rfl
  go_enter Tryz.func68, Tryz.ntmps68
  go_wp2_with fail
  go_ret
  exact ⟨rfl, Below.refl _ _⟩
/-- The two pages of the new device, as cells. -/
def DevC (w : World) (g : Nat) : Prop := g < w.heap.size ∧ w.cell? ⟨g, 0, none⟩ = some (.string blankS) ∧ w.cell? ⟨g, 1, none⟩ = some (.string blankS)
theorem DevC.step {w w' : World} {g : Nat} (h : DevC w g) (hb : Below w.heap.size w w') : DevC w' g :=
  ⟨Nat.lt_of_lt_of_le h.1 hb.size, (hb.cell (p := ⟨g, 0, none⟩) h.1).trans h.2.1, (hb.cell (p := ⟨g, 1, none⟩) h.1).trans h.2.2⟩
theorem DevB.toC {B g : Nat} {w : World} (h : DevB B w g) : DevC w g := by
  obtain ⟨-, cur, h1, h2, h3⟩ := h
  exact ⟨(Array.getElem?_eq_some_iff.1 h1).1, by rw [cell_of_row w g 0 _ 9 (0, 0) h1, h2], by rw [cell_of_row w g 1 _ 9 (0, 0) h1, h3]⟩
set_option maxRecDepth 100000 in
theorem idx112 (gp cp : Nat) (w : World) (hd : DevC w gp) : Calls Tryz.prog 112 #[.slice (some ⟨gp, 0, none⟩) 2 cp, .func (.func 68) #[] #[]] w (Gives (.int .i64 (-1)) w) := by
  have HD := Hd.mk hd
  obtain ⟨-, c0, -⟩ := hd
  go_enter Tryz.func112, Tryz.ntmps112
  go_wp2_with fail
  refine wp_loop_rounds 3 ?_
  rw [rounds_succ]
  go_wp2_with fail
  refine (len68 _).mono ?_
  rintro e w1 ⟨rfl, hb⟩
  obtain ⟨-, -, d1⟩ := HD.out.step hb
  have HB := Hd.mk hb
  clear hb c0
  go_wp2_with fail
  rw [rounds_succ]
  go_wp2_with fail
  refine (len68 _).mono ?_
  rintro e w2 ⟨rfl, hb2⟩
  have HB2 := Hd.mk (HB.out.trans (hb2.mono HB.out.size))
  clear hb2 d1
  go_wp2_with fail
  rw [rounds_succ]
  go_wp2_with fail
  go_ret
  exact ⟨rfl, HB2.out⟩
theorem has67 (gp cp : Nat) (w : World) (hd : DevC w gp) : Calls Tryz.prog 67 #[.slice (some ⟨gp, 0, none⟩) 2 cp, .func (.func 68) #[] #[]] w (Gives (.bool false) w) := by
  go_enter Tryz.func67, Tryz.ntmps67
  go_wp2_with fail
  refine (idx112 gp cp _ hd).mono ?_
  rintro e w1 ⟨rfl, hb⟩
  go_wp2_with fail
  go_ret
  exact ⟨rfl, hb⟩
set_option maxRecDepth 100000 in
theorem valid37 (gp cp : Nat) (w : World) (hd : DevC w gp) : Calls Tryz.prog 37 #[.agg #[.slice (some ⟨gp, 0, none⟩) 2 cp, .int .i64 0, .slice none 0 0, .bool false, .slice none 0 0]] w (Gives (.bool true) w) := by
  have HD := Hd.mk hd
  clear hd
  have HS := Hd.mk ((Pre.nil w).alloc #[.slice (some ⟨gp, 0, none⟩) 2 cp, .int .i64 0, .slice none 0 0, .bool false, .slice none 0 0] 62 w.heap.size rfl)
  go_enter Tryz.func37, Tryz.ntmps37
  go_wp2_with fail
  refine wp_loop_rounds 1 ?_
  rw [rounds_succ]
  go_wp2_with fail
  refine (has67 gp cp _ (HD.out.step HS.out.below)).mono ?_
  rintro e w1 ⟨rfl, hb⟩
  replace HS := Hd.mk (HS.out.step hb)
  clear hb
  obtain ⟨b01, b02, b03, b04, -⟩ := blk (HS.out.mem (w.heap.size, #[.slice (some ⟨gp, 0, none⟩) 2 cp, .int .i64 0, .slice none 0 0, .bool false, .slice none 0 0], 62) (by simp)).2
  go_wp2_with fail
  refine (has69 _ _).mono ?_
  rintro e w2 ⟨rfl, hb⟩
  replace HS := Hd.mk (HS.out.step hb)
  clear hb b01 b02 b03 b04
  obtain ⟨b01, b02, b03, b04, -⟩ := blk (HS.out.mem (w.heap.size, #[.slice (some ⟨gp, 0, none⟩) 2 cp, .int .i64 0, .slice none 0 0, .bool false, .slice none 0 0], 62) (by simp)).2
  go_wp2_with fail
  go_ret
  exact ⟨rfl, HS.out.below⟩
end Go.Proofs.YtcjmejokgoefkaaGreat
