import Derived.Test.YtcjmejokgoefkaaGreatW17
namespace Go.Proofs.YtcjmejokgoefkaaGreat
open Go.RowKit
set_option linter.unusedSimpArgs false
set_option linter.unusedVariables false
@[irreducible] def z16 : Array Value := #[.int .u32 0, .int .u32 0, .int .u32 0, .int .u32 0, .int .u32 0, .int .u32 0, .int .u32 0, .int .u32 0, .int .u32 0, .int .u32 0, .int .u32 0, .int .u32 0, .int .u32 0, .int .u32 0, .int .u32 0, .int .u32 0]
@[go_sem] theorem z16_size : z16.size = 16 := by unfold z16; rfl
/-- Sixteen numbers. -/
def U16 (a : Array Value) : Prop := a.size = 16 ∧ ∀ i, i < 16 → ∃ c : Int, a[i]? = some (.int .u32 c)
theorem U16.one {a : Array Value} (h : U16 a) : One a := by
  unfold One
  rw [Array.all_eq_true]
  intro i hi
  obtain ⟨c, hc⟩ := h.2 i (by have := h.1; omega)
  rw [Array.getElem?_eq_getElem hi] at hc
  rw [Option.some.inj hc]
  rfl
theorem U16.zero : U16 z16 := by
  refine ⟨z16_size, fun i hi => ⟨0, ?_⟩⟩
  unfold z16
  rcases i with _|_|_|_|_|_|_|_|_|_|_|_|_|_|_|_|i <;> first | rfl | omega
theorem U16.set {a : Array Value} (h : U16 a) (i : Nat) (c : Int) : U16 (a.setIfInBounds i (.int .u32 c)) := by
  refine ⟨by simp [h.1], fun j hj => ?_⟩
  by_cases e : i = j
  · subst e
    exact ⟨c, by simp [h.1, hj]⟩
  · obtain ⟨d, hd⟩ := h.2 j hj
    exact ⟨d, by simp [e, hd]⟩
@[go_sem ↓ high] theorem run_zero340 (w : World) : (zeroValue 340).run Tryz.prog w = .ok (.agg z16) w := by unfold z16; kernel_rfl
@[go_sem ↓ high] theorem ldw340 (a : Addr) : loadVar 340 a = ldv 340 a := ldv_eq 340 a
@[go_sem ↓ high] theorem stw340 (a : Addr) (v : Value) : storeVar 340 a v = stv 340 a v := stv_eq 340 a v
theorem info340 : (Tryz.prog.info? 340).map (·.size) = some 16 := by kernel_rfl
@[go_sem] theorem run_ld340 (w : World) (g : Nat) (h : (rowAt w g).size = 16) : (ldv 340 ⟨g, 0, none⟩).run Tryz.prog w = .ok (.agg (rowAt w g)) w := ld_all Tryz.underlying340 rfl info340 w g h
@[go_sem] theorem run_st340 (w : World) (g : Nat) (a : Array Value) (ha : a.size = 16) (h1 : One a) (h : (rowAt w g).size = 16) (hf : live w g = true) : (stv 340 ⟨g, 0, none⟩ (.agg a)).run Tryz.prog w = .ok () (w.setRow g a) := st_all info340 w g a ha h1 h hf
def Tab (w : World) (e : Ending) (w' : World) : Prop := ∃ a, U16 a ∧ e = .returned (.agg a) ∧ Below w.heap.size w w'
set_option maxRecDepth 100000 in
theorem rem208 (w : World) : Calls Tryz.prog 208 #[] w (Tab w) := by
  have HS := Hd.mk (((Pre.nil w).alloc z16 340 w.heap.size rfl).alloc z16 340 (w.heap.size + 1) (by simp))
  go_enter Tryz.func208, Tryz.ntmps208
  go_wp2_with fail
  go_loopw [4] (fun v wr => ∃ (k : Nat) (a : Array Value), k ≤ 16 ∧ v = .int .i64 (k : Int) ∧ Hd (U16 a ∧ Pre w.heap.size w [(w.heap.size + 1, a, 340), (w.heap.size, z16, 340)] wr)) (fun v _ => 16 - (intOf v).toNat)
  case atStart => exact ⟨0, z16, by omega, rfl, ⟨U16.zero, HS.out⟩⟩
  case round =>
    obtain ⟨k, a, hk, rfl, HO⟩ := hrel
    by_cases hlt : k < 16
    · go_wp2_with fail
      go_loop [3, 9] (fun u v => ∃ (r : Int) (j : Nat), j ≤ 4 ∧ u = .int .u32 r ∧ v = .int .i64 (j : Int)) (fun _ v => 4 - (intOf v).toNat)
      case atStart => exact ⟨_, 0, by omega, rfl, rfl⟩
      case round =>
        obtain ⟨r, j, hj, rfl, rfl⟩ := hrel
        by_cases hlt2 : j < 4
        · go_wp2_with fail
          all_goals exact ⟨⟨_, j + 1, by omega, rfl, by go_num⟩, by simp [intOf]; omega⟩
        · obtain rfl : j = 4 := by omega
          obtain ⟨c, hc⟩ := HO.out.1.2 k hlt
          obtain ⟨b1, b2, b3, b4, b5, b6, b7, b8⟩ := HO.out.2.facts (w.heap.size + 1) a 340 (by simp)
          have c0 : wr.cell? ⟨w.heap.size + 1, k, none⟩ = some (.int .u32 c) := (b3 k).trans hc
          clear hc b3
          go_wp2_with fail
          go_roundw
          case rel =>
            refine ⟨k + 1, a.setIfInBounds k (.int .u32 r), by omega, by go_num, ⟨HO.out.1.set k r, ?_⟩⟩
            refine HO.out.2.setCell (w.heap.size + 1) a 340 (by simp) k _ (l' := [(w.heap.size, z16, 340)]) ?_
            intro x hx
            rcases List.mem_cons.1 hx with rfl | hx
            · exact ⟨by simp, by simp⟩
            · cases hx
          case measure => simp [intOf]; omega
    · obtain rfl : k = 16 := by omega
      obtain ⟨b1, b2, b3, b4, b5, b6, b7, b8⟩ := HO.out.2.facts (w.heap.size + 1) a 340 (by simp)
      obtain ⟨d1, d2, d3, d4, d5, d6, d7, d8⟩ := HO.out.2.facts w.heap.size z16 340 (by simp)
      have s1 : (rowAt wr (w.heap.size + 1)).size = 16 := by rw [b1]; exact HO.out.1.1
      have s2 : (rowAt wr w.heap.size).size = 16 := by rw [d1]; exact z16_size
      have s3 : One a := HO.out.1.one
      have s4 : a.size = 16 := HO.out.1.1
      clear b3 d3
      go_wp2_with fail
      refine bodyPost_ret (v := .agg a) (results_c rfl rfl (by simp (maxDischargeDepth := 6) [go_sem, b1, b2, d1, d2, s4])) rfl ⟨a, HO.out.1, rfl, ?_⟩
      exact below_setRow HO.out.2.below (Nat.le_refl _) _
end Go.Proofs.YtcjmejokgoefkaaGreat
