import Derived.Test.YtcjmejokgoefkaaGreatW18
namespace Go.Proofs.YtcjmejokgoefkaaGreat
open Go.RowKit
set_option linter.unusedSimpArgs false
set_option linter.unusedVariables false
theorem and15 (x : Int) : 0 ≤ bits .and .u32 x 15 ∧ bits .and .u32 x 15 < 16 := by
  have h : (BitVec.ofInt 32 x &&& BitVec.ofInt 32 15).toNat ≤ 15 := by
    rw [BitVec.toNat_and]
    exact Nat.le_trans Nat.and_le_right (by decide)
  have e : bits .and .u32 x 15 = IntKind.u32.wrap ((BitVec.ofInt 32 x &&& BitVec.ofInt 32 15).toNat : Int) := rfl
  rw [e, IntKind.wrap_u32]
  omega
def Num (w : World) (e : Ending) (w' : World) : Prop := ∃ c : Int, e = .returned (.int .u32 c) ∧ Below w.heap.size w w'
set_option maxRecDepth 100000 in
theorem sum179 (s : ByteArray) (hs : s.size ≤ 1000000) (w : World) : Calls Tryz.prog 179 #[.string s] w (Num w) := by
  go_enter Tryz.func179, Tryz.ntmps179
  go_wp2_with fail
  refine (rem208 _).mono ?_
  rintro e w1 ⟨a, ha, rfl, hb⟩
  have HA := Hd.mk ha
  have a1 := ha.one
  have a2 := ha.1
  have HB := Hd.mk hb
  clear ha hb
  go_wp2_with fail
  have HS := Hd.mk (((Pre.nil w).step HB.out).alloc a 340 w1.heap.size rfl)
  clear a1 a2
  go_loop [4, 9] (fun u v => ∃ (r : Int) (k : Nat), k ≤ s.size ∧ u = .int .u32 r ∧ v = .int .i64 (k : Int)) (fun _ v => s.size - (intOf v).toNat)
  case atStart => exact ⟨_, 0, by omega, rfl, rfl⟩
  case round =>
    obtain ⟨r, k, hk, rfl, rfl⟩ := hrel
    by_cases hlt : k < s.size
    · have i1 := and15 (bits .xor .u32 r ((s[k].toNat : Int) % 4294967296))
      obtain ⟨c1, hc1⟩ := HA.out.2 _ (by omega : (bits .and .u32 (bits .xor .u32 r ((s[k].toNat : Int) % 4294967296)) 15).toNat < 16)
      have i2 := and15 (bits .xor .u32 (bits .xor .u32 r ((s[k].toNat : Int) % 4294967296) / 16) c1)
      obtain ⟨c2, hc2⟩ := HA.out.2 _ (by omega : (bits .and .u32 (bits .xor .u32 (bits .xor .u32 r ((s[k].toNat : Int) % 4294967296) / 16) c1) 15).toNat < 16)
      go_wp2_with fail
      go_round
      case rel => exact ⟨_, k + 1, by omega, rfl, by go_num⟩
      case measure => simp [intOf]; omega
    · obtain rfl : k = s.size := by omega
      go_wp2_with fail
      go_ret
      exact ⟨_, rfl, HS.out.below⟩
end Go.Proofs.YtcjmejokgoefkaaGreat
