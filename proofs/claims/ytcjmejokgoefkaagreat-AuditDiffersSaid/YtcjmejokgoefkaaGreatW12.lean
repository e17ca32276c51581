import Derived.Test.YtcjmejokgoefkaaGreatW11
namespace Go.Proofs.YtcjmejokgoefkaaGreat
open Go.RowKit
set_option linter.unusedSimpArgs false
set_option linter.unusedVariables false
@[go_sem] theorem run_ld68m (w : World) (g : Nat) (h : (rowAt w g).size = 50) : (ldv 68 ⟨g, 24, none⟩).run Tryz.prog w = .ok (.agg ((rowAt w g).extract 24 27)) w := ld_mid Tryz.underlying68 rfl info68 24 (by omega) w g h
@[go_sem] theorem dbA_x24b (gr gp cp gb cb : Nat) : (dbA gr gp cp gb cb).extract 24 27 = #[.int .i64 0, .int .i64 0, .slice none 0 0] := by unfold dbA; rfl
set_option maxRecDepth 100000 in
set_option maxHeartbeats 4000000 in
theorem fits41 (gr gp cp gb cb : Nat) (w : World) : Calls Tryz.prog 41 #[.agg (dbA gr gp cp gb cb)] w (Gives (.bool true) w) := by
  have HS := Hd.mk ((Pre.nil w).alloc (dbA gr gp cp gb cb) 84 w.heap.size rfl)
  go_enter Tryz.func41, Tryz.ntmps41
  go_wp2_with fail
  go_quiet (fail)
  replace HS := Hd.mk (HS.out.step (below_drewN (Below.refl _ _) nq))
  obtain ⟨b01, b02, b03, b04, -⟩ := blk (HS.out.mem (w.heap.size, dbA gr gp cp gb cb, 84) (by simp)).2
  go_wp2_with fail
  refine (same76 _).mono ?_
  rintro e w1 ⟨rfl, hb⟩
  replace HS := Hd.mk (HS.out.step hb)
  clear hb b01 b02 b03 b04
  obtain ⟨b01, b02, b03, b04, -⟩ := blk (HS.out.mem (w.heap.size, dbA gr gp cp gb cb, 84) (by simp)).2
  go_wp2_with fail
  go_ret
  exact ⟨rfl, HS.out.below⟩
/-- The blocks of the new database, for reading. -/
structure DbC (gr gp gb : Nat) (w : World) : Prop where
  r : w.heap[gr]? = some (.cells rw6 218 (0, 0))
  p : DevC w gp
  b : BndC w gb
theorem DbIn.toC {B gr gp gb : Nat} {w : World} (h : DbIn B gr gp gb w) : DbC gr gp gb w := ⟨h.r, h.p.toC, h.b.toC⟩
theorem DbC.step {gr gp gb : Nat} {w w' : World} (h : DbC gr gp gb w) (hb : Below w.heap.size w w') : DbC gr gp gb w' :=
  ⟨(hb.block gr (Array.getElem?_eq_some_iff.1 h.r).1).trans h.r, h.p.step hb, h.b.step hb⟩
theorem Pre.c {gr gp gb : Nat} {w w' : World} {l : Ents} (h : Pre w.heap.size w l w') (hd : DbC gr gp gb w) : DbC gr gp gb w' := hd.step h.below
set_option maxRecDepth 100000 in
set_option maxHeartbeats 4000000 in
theorem valid21 (gr gp cp gb cb : Nat) (w : World) (hd : DbC gr gp gb w) : Calls Tryz.prog 21 #[.agg (dbA gr gp cp gb cb)] w (Gives (.bool true) w) := by
  have HD := Hd.mk hd
  clear hd
  have HS := Hd.mk ((Pre.nil w).alloc (dbA gr gp cp gb cb) 84 w.heap.size rfl)
  go_enter Tryz.func21, Tryz.ntmps21
  go_wp2_with fail
  refine (valid36 gr _ (HS.out.c HD.out).r).mono ?_
  rintro e w1 ⟨rfl, hb⟩
  replace HS := Hd.mk (HS.out.step hb)
  clear hb
  obtain ⟨b01, b02, b03, b04, -⟩ := blk (HS.out.mem (w.heap.size, dbA gr gp cp gb cb, 84) (by simp)).2
  go_wp2_with fail
  refine (valid37 gp cp _ (HS.out.c HD.out).p).mono ?_
  rintro e w2 ⟨rfl, hb⟩
  replace HS := Hd.mk (HS.out.step hb)
  clear hb b01 b02 b03 b04
  obtain ⟨b01, b02, b03, b04, -⟩ := blk (HS.out.mem (w.heap.size, dbA gr gp cp gb cb, 84) (by simp)).2
  go_wp2_with fail
  refine (valid38 gb cb _ (HS.out.c HD.out).b).mono ?_
  rintro e w3 ⟨rfl, hb⟩
  replace HS := Hd.mk (HS.out.step hb)
  clear hb b01 b02 b03 b04
  obtain ⟨b01, b02, b03, b04, -⟩ := blk (HS.out.mem (w.heap.size, dbA gr gp cp gb cb, 84) (by simp)).2
  go_wp2_with fail
  refine (valid39 _).mono ?_
  rintro e w4 ⟨rfl, hb⟩
  replace HS := Hd.mk (HS.out.step hb)
  clear hb b01 b02 b03 b04
  obtain ⟨b01, b02, b03, b04, -⟩ := blk (HS.out.mem (w.heap.size, dbA gr gp cp gb cb, 84) (by simp)).2
  go_wp2_with fail
  refine (valid40 _).mono ?_
  rintro e w5 ⟨rfl, hb⟩
  replace HS := Hd.mk (HS.out.step hb)
  clear hb b01 b02 b03 b04
  obtain ⟨b01, b02, b03, b04, -⟩ := blk (HS.out.mem (w.heap.size, dbA gr gp cp gb cb, 84) (by simp)).2
  go_wp2_with fail
  refine (fits41 gr gp cp gb cb _).mono ?_
  rintro e w6 ⟨rfl, hb⟩
  replace HS := Hd.mk (HS.out.step hb)
  clear hb b01 b02 b03 b04
  obtain ⟨b01, b02, b03, b04, -⟩ := blk (HS.out.mem (w.heap.size, dbA gr gp cp gb cb, 84) (by simp)).2
  go_wp2_with fail
  refine wp_loop_rounds 1 ?_
  rw [rounds_succ]
  go_wp2_with fail
  refine (asc42 1 1073741824 _).mono ?_
  rintro e w7 ⟨rfl, hb⟩
  replace HS := Hd.mk (HS.out.step hb)
  clear hb b01 b02 b03 b04
  obtain ⟨b01, b02, b03, b04, -⟩ := blk (HS.out.mem (w.heap.size, dbA gr gp cp gb cb, 84) (by simp)).2
  go_wp2_with fail
  refine (valid43 _).mono ?_
  rintro e w8 ⟨rfl, hb⟩
  replace HS := Hd.mk (HS.out.step hb)
  clear hb b01 b02 b03 b04
  obtain ⟨b01, b02, b03, b04, -⟩ := blk (HS.out.mem (w.heap.size, dbA gr gp cp gb cb, 84) (by simp)).2
  go_wp2_with fail
  refine (valid44 _).mono ?_
  rintro e w9 ⟨rfl, hb⟩
  replace HS := Hd.mk (HS.out.step hb)
  clear hb b01 b02 b03 b04
  obtain ⟨b01, b02, b03, b04, -⟩ := blk (HS.out.mem (w.heap.size, dbA gr gp cp gb cb, 84) (by simp)).2
  go_wp2_with fail
  refine (asc42 0 1 _).mono ?_
  rintro e w10 ⟨rfl, hb⟩
  replace HS := Hd.mk (HS.out.step hb)
  clear hb b01 b02 b03 b04
  obtain ⟨b01, b02, b03, b04, -⟩ := blk (HS.out.mem (w.heap.size, dbA gr gp cp gb cb, 84) (by simp)).2
  go_wp2_with fail
  go_ret
  exact ⟨rfl, HS.out.below⟩
end Go.Proofs.YtcjmejokgoefkaaGreat
