import Derived.Test.YtcjmejokgoefkaaGreatW3
namespace Go.Proofs.YtcjmejokgoefkaaGreat
open Go.RowKit
set_option linter.unusedSimpArgs false
set_option linter.unusedVariables false
/-- The blocks of the new database, as they lie in a world. -/
structure DbIn (B gr gp gb : Nat) (w : World) : Prop where
  hr : B ≤ gr
  r : w.heap[gr]? = some (.cells rw6 218 (0, 0))
  p : DevB B w gp
  b : BndB B w gb
theorem DbIn.step {B gr gp gb : Nat} {w w' : World} (h : DbIn B gr gp gb w) (hb : Below w.heap.size w w') : DbIn B gr gp gb w' := by
  obtain ⟨h1, h2, ⟨h3, cur, h4, h5⟩, ⟨h6, cub, h7, h8⟩⟩ := h
  exact ⟨h1, (hb.block gr (Array.getElem?_eq_some_iff.1 h2).1).trans h2, ⟨h3, cur, (hb.block gp (Array.getElem?_eq_some_iff.1 h4).1).trans h4, h5⟩, ⟨h6, cub, (hb.block gb (Array.getElem?_eq_some_iff.1 h7).1).trans h7, h8⟩⟩
theorem DbIn.setRow {B gr gp gb : Nat} {w : World} (h : DbIn B gr gp gb w) (g : Nat) (cs : Array Value) (h1 : gr ≠ g) (h2 : gp ≠ g) (h3 : gb ≠ g) : DbIn B gr gp gb (w.setRow g cs) := by
  obtain ⟨k1, k2, ⟨k3, cur, k4, k5⟩, ⟨k6, cub, k7, k8⟩⟩ := h
  exact ⟨k1, (setRow_other _ _ _ _ h1).trans k2, ⟨k3, cur, (setRow_other _ _ _ _ h2).trans k4, k5⟩, ⟨k6, cub, (setRow_other _ _ _ _ h3).trans k7, k8⟩⟩
set_option maxRecDepth 100000 in
theorem new10 (gb0 cb0 : Nat) (w : World) (hb0 : w.heap[gb0]? = some (.cells #[.int .i64 0] 3 (0, 0))) :
    Calls Tryz.prog 10 #[.int .i64 2, .int .i64 1, .int .i64 0, .slice (some ⟨gb0, 0, none⟩) 1 cb0] w (fun e w' => ∃ gr gp cp gb cb, e = .returned (.tuple #[.agg (dbA gr gp cp gb cb), .int .i64 0]) ∧ Below w.heap.size w w' ∧ DbIn w.heap.size gr gp gb w') := by
  go_enter Tryz.func10, Tryz.ntmps10
  go_wp2_with fail
  refine (new15 _).mono ?_
  rintro e w1 ⟨gr, rfl, hb1, hgr, hrow⟩
  go_wp2_with fail
  refine (new16 _).mono ?_
  rintro e w2 ⟨gp, cp, rfl, hb2, hdev⟩
  go_wp2_with fail
  have S3 := (((((Pre.nil w).alloc zDb 84 w.heap.size rfl).step hb1).alloc (kerA gr) 57 w1.heap.size rfl).step hb2).alloc #[.slice (some ⟨gp, 0, none⟩) 2 cp, .int .i64 0, .slice none 0 0, .bool false, .slice none 0 0] 62 w2.heap.size rfl
  refine (new17 gb0 cb0 _ ((S3.below.block gb0 (Array.getElem?_eq_some_iff.1 hb0).1).trans hb0)).mono ?_
  rintro e w3 ⟨gb, cb, rfl, hb3, hbnd⟩
  have S4 := (S3.step hb3).alloc #[.slice (some ⟨gb, 0, none⟩) 1 cb, .int .i64 2, .slice none 0 0, .int .i64 1, .int .i64 1] 65 w3.heap.size rfl
  clear S3
  go_wp2_with fail
  refine (new18 _).mono ?_
  rintro e w4 ⟨rfl, hb4⟩
  have S5 := (S4.step hb4).alloc #[.int .i64 2, .int .i64 0, .slice none 0 0, .slice none 0 0] 76 w4.heap.size rfl
  clear S4
  go_wp2_with fail
  refine (shares20 _).mono ?_
  rintro e w5 ⟨rfl, hb5⟩
  go_wp2_with fail
  refine (new19 _).mono ?_
  rintro e w6 ⟨rfl, hb6⟩
  have S6 := ((S5.step hb5).step hb6).alloc quA 82 w6.heap.size rfl
  clear S5
  have B13 := (((((Pre.nil w1).alloc (kerA gr) 57 w1.heap.size rfl).step hb2).alloc #[.slice (some ⟨gp, 0, none⟩) 2 cp, .int .i64 0, .slice none 0 0, .bool false, .slice none 0 0] 62 w2.heap.size rfl).step hb3).below
  have B23 := (((Pre.nil w2).alloc #[.slice (some ⟨gp, 0, none⟩) 2 cp, .int .i64 0, .slice none 0 0, .bool false, .slice none 0 0] 62 w2.heap.size rfl).step hb3).below
  have B36 := ((((((Pre.nil w3).alloc #[.slice (some ⟨gb, 0, none⟩) 1 cb, .int .i64 2, .slice none 0 0, .int .i64 1, .int .i64 1] 65 w3.heap.size rfl).step hb4).alloc #[.int .i64 2, .int .i64 0, .slice none 0 0, .slice none 0 0] 76 w4.heap.size rfl).step hb5).step hb6).alloc quA 82 w6.heap.size rfl |>.below
  have z1 := hb1.size
  have z2 := hb2.size
  have z3 := hb3.size
  simp at z1 z2 z3 hgr
  obtain ⟨p1, cur, p2, p3⟩ := hdev
  obtain ⟨q1, cub, q2, q3⟩ := hbnd
  simp at p1 q1
  have D : DbIn w.heap.size gr gp gb (w6.alloc (.cells quA 82)) := DbIn.step ⟨by omega, (B13.block gr (Array.getElem?_eq_some_iff.1 hrow).1).trans hrow, ⟨by omega, cur, (B23.block gp (Array.getElem?_eq_some_iff.1 p2).1).trans p2, p3⟩, ⟨by omega, cub, q2, q3⟩⟩ B36
  clear hb1 hb2 hb3 hb4 hb5 hb6 B13 B23 B36 p2 p3 q2 q3 hrow
  obtain ⟨a1, a2, -, -⟩ := S6.at w.heap.size zDb 84 (by simp)
  obtain ⟨c1, c2, -, -⟩ := S6.at w1.heap.size (kerA gr) 57 (by simp)
  obtain ⟨d1, d2, -, -⟩ := S6.at w2.heap.size #[.slice (some ⟨gp, 0, none⟩) 2 cp, .int .i64 0, .slice none 0 0, .bool false, .slice none 0 0] 62 (by simp)
  obtain ⟨e1, e2, -, -⟩ := S6.at w3.heap.size #[.slice (some ⟨gb, 0, none⟩) 1 cb, .int .i64 2, .slice none 0 0, .int .i64 1, .int .i64 1] 65 (by simp)
  obtain ⟨f1, f2, -, -⟩ := S6.at w4.heap.size #[.int .i64 2, .int .i64 0, .slice none 0 0, .slice none 0 0] 76 (by simp)
  obtain ⟨h1, h2, -, -⟩ := S6.at w6.heap.size quA 82 (by simp)
  have HS := Hd.mk S6
  clear S6
  go_wp2_with fail
  refine bodyPost_ret (v := .tuple #[.agg (dbA gr gp cp gb cb), .int .i64 0]) (results_ct rfl rfl (by simp (maxDischargeDepth := 6) [go_sem, a1, a2]) rfl) rfl ⟨gr, gp, cp, gb, cb, rfl, below_setRow HS.out.below (Nat.le_refl _) _, ?_⟩
  exact D.setRow _ _ (by omega) (by omega) (by omega)
end Go.Proofs.YtcjmejokgoefkaaGreat
