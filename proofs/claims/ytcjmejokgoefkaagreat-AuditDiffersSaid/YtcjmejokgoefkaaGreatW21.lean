import Derived.Test.YtcjmejokgoefkaaGreatW19
import Derived.Deep.RegionWith
namespace Go.Proofs.YtcjmejokgoefkaaGreat
open Go.RowKit
set_option linter.unusedSimpArgs false
set_option linter.unusedVariables false
@[irreducible] def caA : Array Value := #[.bool false, .string ⟨#[]⟩, .bool false, .string ⟨#[]⟩, .bool false, .string ⟨#[]⟩, .bool false, .string ⟨#[]⟩, .bool false, .string ⟨#[]⟩, .bool false, .string ⟨#[]⟩, .bool false, .string ⟨#[]⟩, .bool false, .string ⟨#[]⟩, .bool false, .string ⟨#[]⟩, .bool false, .string ⟨#[]⟩, .bool false, .string ⟨#[]⟩, .bool false, .string ⟨#[]⟩, .bool false, .string ⟨#[]⟩, .bool false, .string ⟨#[]⟩, .bool false, .string ⟨#[]⟩, .bool false, .string ⟨#[]⟩]
@[go_sem] theorem pg_cells (id : Int) : (pgA (npg id)).extract 2 34 = caA := by unfold pgA caA; kernel_rfl
@[go_sem ↓ high] theorem ldw30 (a : Addr) : loadVar 30 a = ldv 30 a := ldv_eq 30 a
theorem info30 : (Tryz.prog.info? 30).map (·.size) = some 32 := by kernel_rfl
theorem run_ld30 (w : World) (g : Nat) (id : Int) (h : rowAt w g = pgA (npg id)) : (ldv 30 ⟨g, 2, none⟩).run Tryz.prog w = .ok (.agg caA) w := by
  have := ld_mid Tryz.underlying30 rfl info30 2 (m := 33) (by omega) w g (by rw [h, pgA_size])
  rw [h, pg_cells] at this
  exact this
@[go_sem ↓ high] theorem ixw30 (x y : Value) : Instr.index 30 x y = ixq 30 x y := ixq_eq _ _ _
theorem run_ix30 (w : World) (k : Nat) (hk : k < 16) : (ixq 30 (.agg caA) (.int .i64 (k : Int))).run Tryz.prog w = .ok (.agg #[.bool false, .string ⟨#[]⟩]) w := by
  rw [← ixq_eq]
  unfold caA
  rcases k with _|_|_|_|_|_|_|_|_|_|_|_|_|_|_|_|k <;> first | (exfalso; omega) | kernel_rfl
set_option maxRecDepth 100000 in
theorem placed135 (id : Int) (w : World) (h0 : 0 ≤ id) (h1 : id ≤ 1) : Calls Tryz.prog 135 #[.agg (pgA (npg id))] w (Gives (.bool true) w) := by
  have HS := Hd.mk ((Pre.nil w).alloc (pgA (npg id)) 32 w.heap.size (by simp))
  go_enter Tryz.func135, Tryz.ntmps135
  go_wp2_with fail
  refine (named166 id _ h0 h1).mono ?_
  rintro e w1 ⟨rfl, hb⟩
  replace HS := Hd.mk (HS.out.step hb)
  clear hb
  obtain ⟨b01, b02, b03, b04, b05, b06, b07, b08⟩ := HS.out.facts w.heap.size (pgA (npg id)) 32 (by simp)
  go_wp2_with fail
  go_ret
  exact ⟨rfl, HS.out.below⟩
set_option maxRecDepth 100000 in
theorem cells136 (id : Int) (w : World) : Calls Tryz.prog 136 #[.agg (pgA (npg id))] w (Gives (.bool true) w) := by
  have HS := Hd.mk ((Pre.nil w).alloc (pgA (npg id)) 32 w.heap.size rfl)
  have h0 := run_ld30 (w.alloc (.cells (pgA (npg id)) 32)) w.heap.size id (by simp [go_sem])
  go_enter Tryz.func136, Tryz.ntmps136
  go_wp2_with fail
  clear h0
  go_loopw [7] (fun v wr => ∃ k : Nat, k ≤ 16 ∧ v = .int .i64 (k : Int) ∧ Hd (Below w.heap.size w wr)) (fun v _ => 16 - (intOf v).toNat)
  case atStart => exact ⟨0, by omega, rfl, ⟨HS.out.below⟩⟩
  case round =>
    obtain ⟨k, hk, rfl, HO⟩ := hrel
    by_cases hlt : k < 16
    · have h1 := run_ix30 wr k hlt
      have q1 : (k : Int) < 16 := by omega
      have hz := HO.out.size
      go_wp2_with fail
      go_roundw
      case rel => exact ⟨k + 1, by omega, by go_num, ⟨HO.out.alloc hz _⟩⟩
      case measure => simp [intOf]; omega
    · obtain rfl : k = 16 := by omega
      go_wp2_with fail
      go_ret
      exact ⟨rfl, HO.out⟩
end Go.Proofs.YtcjmejokgoefkaaGreat
