import Derived.Test.YtcjmejokgoefkaaGreatW8
namespace Go.Proofs.YtcjmejokgoefkaaGreat
open Go.RowKit
set_option linter.unusedSimpArgs false
set_option linter.unusedVariables false
theorem within54b (w : World) : Calls Tryz.prog 54 #[.int .i64 1, .int .i64 1, .int .i64 1073741825] w (Gives (.bool true) w) := by
  go_enter Tryz.func54, Tryz.ntmps54
  go_wp2_with fail
  go_ret
  exact ⟨rfl, Below.refl _ _⟩
set_option maxRecDepth 100000 in
set_option maxHeartbeats 8000000 in
theorem valid36 (gr : Nat) (w : World) (hr : w.heap[gr]? = some (.cells rw6 218 (0, 0))) : Calls Tryz.prog 36 #[.agg (kerA gr)] w (Gives (.bool true) w) := by
  have HR := Hd.mk hr
  clear hr
  have HS := Hd.mk ((Pre.nil w).alloc (kerA gr) 57 w.heap.size rfl)
  go_enter Tryz.func36, Tryz.ntmps36
  trace "0"
  go_wp2_with fail
  refine (within54 _).mono ?_
  rintro e w1 ⟨rfl, hb⟩
  replace HS := Hd.mk (HS.out.step hb)
  clear hb
  obtain ⟨b01, b02, b03, b04, -⟩ := blk (HS.out.mem (w.heap.size, kerA gr, 57) (by simp)).2
  trace "1"
  go_wp2_with fail
  refine (within54b _).mono ?_
  rintro e w2 ⟨rfl, hb⟩
  replace HS := Hd.mk (HS.out.step hb)
  clear hb b01 b02 b03 b04
  obtain ⟨b01, b02, b03, b04, -⟩ := blk (HS.out.mem (w.heap.size, kerA gr, 57) (by simp)).2
  trace "2"
  go_wp2_with fail
  refine (valid50 _).mono ?_
  rintro e w3 ⟨rfl, hb⟩
  replace HS := Hd.mk (HS.out.step hb)
  clear hb b01 b02 b03 b04
  obtain ⟨b01, b02, b03, b04, -⟩ := blk (HS.out.mem (w.heap.size, kerA gr, 57) (by simp)).2
  trace "3"
  go_wp2_with fail
  refine (valid55 _).mono ?_
  rintro e w4 ⟨rfl, hb⟩
  replace HS := Hd.mk (HS.out.step hb)
  clear hb b01 b02 b03 b04
  obtain ⟨b01, b02, b03, b04, -⟩ := blk (HS.out.mem (w.heap.size, kerA gr, 57) (by simp)).2
  trace "4"
  go_wp2_with fail
  refine (valid56 _).mono ?_
  rintro e w5 ⟨rfl, hb⟩
  replace HS := Hd.mk (HS.out.step hb)
  clear hb b01 b02 b03 b04
  obtain ⟨b01, b02, b03, b04, -⟩ := blk (HS.out.mem (w.heap.size, kerA gr, 57) (by simp)).2
  trace "5"
  go_wp2_with fail
  refine (valid57 _).mono ?_
  rintro e w6 ⟨rfl, hb⟩
  replace HS := Hd.mk (HS.out.step hb)
  clear hb b01 b02 b03 b04
  obtain ⟨b01, b02, b03, b04, -⟩ := blk (HS.out.mem (w.heap.size, kerA gr, 57) (by simp)).2
  trace "6"
  go_wp2_with fail
  refine (valid58 gr _ ((HS.out.below.block gr (Array.getElem?_eq_some_iff.1 HR.out).1).trans HR.out)).mono ?_
  rintro e w7 ⟨rfl, hb⟩
  replace HS := Hd.mk (HS.out.step hb)
  clear hb b01 b02 b03 b04
  obtain ⟨b01, b02, b03, b04, -⟩ := blk (HS.out.mem (w.heap.size, kerA gr, 57) (by simp)).2
  trace "7"
  go_wp2_with fail
  refine (has60 _ _).mono ?_
  rintro e w8 ⟨rfl, hb⟩
  replace HS := Hd.mk (HS.out.step hb)
  clear hb b01 b02 b03 b04
  obtain ⟨b01, b02, b03, b04, -⟩ := blk (HS.out.mem (w.heap.size, kerA gr, 57) (by simp)).2
  trace "8"
  go_wp2_with fail
  refine (has62 _ _).mono ?_
  rintro e w9 ⟨rfl, hb⟩
  replace HS := Hd.mk (HS.out.step hb)
  clear hb b01 b02 b03 b04
  obtain ⟨b01, b02, b03, b04, -⟩ := blk (HS.out.mem (w.heap.size, kerA gr, 57) (by simp)).2
  trace "9"
  go_wp2_with fail
  refine (has64 _ _).mono ?_
  rintro e w10 ⟨rfl, hb⟩
  replace HS := Hd.mk (HS.out.step hb)
  clear hb b01 b02 b03 b04
  obtain ⟨b01, b02, b03, b04, -⟩ := blk (HS.out.mem (w.heap.size, kerA gr, 57) (by simp)).2
  trace "10"
  go_wp2_with fail
  refine (has64 _ _).mono ?_
  rintro e w11 ⟨rfl, hb⟩
  replace HS := Hd.mk (HS.out.step hb)
  clear hb b01 b02 b03 b04
  obtain ⟨b01, b02, b03, b04, -⟩ := blk (HS.out.mem (w.heap.size, kerA gr, 57) (by simp)).2
  trace "11"
  go_wp2_with fail
  refine (lacking65 gr _).mono ?_
  rintro e w12 ⟨rfl, hb⟩
  replace HS := Hd.mk (HS.out.step hb)
  clear hb b01 b02 b03 b04
  obtain ⟨b01, b02, b03, b04, -⟩ := blk (HS.out.mem (w.heap.size, kerA gr, 57) (by simp)).2
  go_wp2_with fail
  go_ret
  exact ⟨rfl, HS.out.below⟩
end Go.Proofs.YtcjmejokgoefkaaGreat
