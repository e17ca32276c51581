import Derived.Test.YtcjmejokgoefkaaGreatW27
namespace Go.Proofs.YtcjmejokgoefkaaGreat
open Go.RowKit
set_option linter.unusedSimpArgs false
set_option linter.unusedVariables false
set_option maxRecDepth 100000 in
set_option maxHeartbeats 4000000 in
theorem awake4 (w : World) : Calls Tryz.prog 4 #[] w (Gives (.bool true) w) := by
  go_enter Tryz.func4, Tryz.ntmps4
  go_wp2_with fail
  have hb0 := heap_alloc_new w (.cells #[.int .i64 0] 3)
  refine (new10 w.heap.size 1 _ hb0).mono ?_
  rintro e w1 ⟨gr, gp, cp, gb, cb, rfl, hb1, hd⟩
  have HS := Hd.mk (((Pre.nil w).alloc #[.int .i64 0] 3 w.heap.size rfl).step hb1)
  have HC := Hd.mk hd.toC
  clear hb0 hb1 hd
  go_wp2_with fail
  replace HS := Hd.mk (HS.out.alloc (dbA gr gp cp gb cb) 84 w1.heap.size rfl)
  replace HC := Hd.mk (HC.out.step ((Below.refl w1.heap.size w1).alloc (Nat.le_refl _) (.cells (dbA gr gp cp gb cb) 84)))
  refine (committed11 gr gp cp gb cb _ HC.out).mono ?_
  rintro e w2 ⟨g, c, rfl, hb⟩
  replace HS := Hd.mk (HS.out.step hb)
  replace HC := Hd.mk (HC.out.step hb)
  clear hb
  obtain ⟨b01, b02, b03, b04, b05, b06, b07, b08⟩ := HS.out.facts w1.heap.size (dbA gr gp cp gb cb) 84 (by simp)
  go_wp2_with fail
  refine (lost12 gr gp cp gb cb _ HC.out).mono ?_
  rintro e w3 ⟨rfl, hb⟩
  replace HS := Hd.mk (HS.out.step hb)
  clear hb
  go_wp2_with fail
  go_ret
  exact ⟨rfl, HS.out.below⟩
end Go.Proofs.YtcjmejokgoefkaaGreat
