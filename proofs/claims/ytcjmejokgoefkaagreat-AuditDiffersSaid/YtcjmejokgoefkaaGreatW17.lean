import Derived.Test.YtcjmejokgoefkaaGreatW16
namespace Go.Proofs.YtcjmejokgoefkaaGreat
open Go.RowKit
set_option linter.unusedSimpArgs false
set_option linter.unusedVariables false
theorem u8_cell (z : Int) (h0 : 0 ≤ z) (h1 : z < 256) : ∃ b : UInt8, Value.int .u8 z = .int .u8 (b.toNat : Int) := by
  refine ⟨UInt8.ofNat z.toNat, ?_⟩
  rw [UInt8.toNat_ofNat']
  congr 1
  omega
/-- A string of so many bytes. -/
def Str (n : Nat) (w : World) (e : Ending) (w' : World) : Prop := ∃ t : ByteArray, e = .returned (.string t) ∧ t.size = n ∧ Below w.heap.size w w'
set_option maxRecDepth 100000 in
theorem put176 (s : ByteArray) (n : Int) (k : Nat) (hk : 1 ≤ k) (hk8 : k ≤ 8) (hs : s.size ≤ 1000000) (w : World) : Calls Tryz.prog 176 #[.string s, .int .i64 n, .int .i64 (k : Int)] w (Str (s.size + k) w) := by
  have q1 : decide ((k : Int) < 1) = false := by simp; omega
  have q2 : decide (8 < (k : Int)) = false := by simp; omega
  go_enter Tryz.func176, Tryz.ntmps176
  go_wp2_with fail
  refine (Tryz.writeString w.heap.size w.heap.size [] s _ (Lib.fresh_isBuilder 329 5 w) (by simp; omega) (by simp)).mono ?_
  rintro e w1 ⟨rfl, h1, hb⟩
  go_wp2_with fail
  have HS := Hd.mk (And.intro h1 (((Below.refl _ _).alloc (Nat.le_refl _) _).trans hb))
  clear h1 hb
  go_loopw [19] (fun v wr => ∃ (j : Nat) (l : List UInt8), j ≤ k ∧ v = .int .i64 (j : Int) ∧ Hd (l.length = s.size + j ∧ Lib.BuilderAt 329 5 w.heap.size w.heap.size (.pointer (some ⟨w.heap.size, 0, none⟩)) (Lib.byteCells l) wr ∧ Below w.heap.size w wr)) (fun v _ => k - (intOf v).toNat)
  case atStart => exact ⟨0, s.data.toList, by omega, rfl, ⟨by simp, HS.out.1, HS.out.2⟩⟩
  case round =>
    obtain ⟨j, l, hj, rfl, HO⟩ := hrel
    by_cases hlt : j < k
    · have r1 : (0 : Int) ≤ 8 * (j : Int) := by omega
      have r2 : (8 : Int) * (j : Int) < 64 := by omega
      go_wp2_with fail
      refine (Tryz.writeByte w.heap.size w.heap.size (Lib.byteCells l) _ _ (Or.inr HO.out.2.1) (by rw [Lib.byteCells_length, HO.out.1]; omega) HO.out.2.2.size).mono ?_
      rintro e w2 ⟨rfl, h2, hb2⟩
      have HN : Hd (∃ l' : List UInt8, l'.length = s.size + (j + 1) ∧ Lib.BuilderAt 329 5 w.heap.size w.heap.size (.pointer (some ⟨w.heap.size, 0, none⟩)) (Lib.byteCells l') w2 ∧ Below w.heap.size w w2) := by
        obtain ⟨b, hbz⟩ := u8_cell (IntKind.u64.wrap n / 2 ^ (8 * j) % 256) (Int.emod_nonneg _ (by decide)) (Int.emod_lt_of_pos _ (by decide))
        rw [hbz] at h2
        exact ⟨l ++ [b], by rw [List.length_append, HO.out.1]; simp; omega, by simpa [Lib.byteCells] using h2, HO.out.2.2.trans hb2⟩
      clear h2 hb2
      go_wp2_with fail
      go_roundw
      case rel => exact ⟨j + 1, HN.out.choose, by omega, by go_num, ⟨HN.out.choose_spec⟩⟩
      case measure => simp [intOf]; omega
    · obtain rfl : j = k := by omega
      go_wp2_with fail
      refine (Tryz.builderString w.heap.size w.heap.size l _ (Or.inr HO.out.2.1) HO.out.2.2.size).mono ?_
      rintro e w2 ⟨rfl, hb2⟩
      have HF := Hd.mk (HO.out.2.2.trans hb2)
      clear hb2
      go_wp2_with fail
      go_ret
      exact ⟨_, rfl, by show l.toArray.size = _; rw [List.size_toArray, HO.out.1], HF.out⟩
end Go.Proofs.YtcjmejokgoefkaaGreat
