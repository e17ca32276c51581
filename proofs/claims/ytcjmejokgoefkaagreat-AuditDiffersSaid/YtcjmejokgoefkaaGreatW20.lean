import Derived.Test.YtcjmejokgoefkaaGreatW19
import Derived.Deep.RegionWith
import Derived.Deep.RegionHeld3
namespace Go.Proofs.YtcjmejokgoefkaaGreat
open Go.RowKit
set_option linter.unusedSimpArgs false
set_option linter.unusedVariables false
/-- The bytes of a number. -/
def byteAt (n : Int) (j : Nat) : UInt8 := UInt8.ofNat (IntKind.u64.wrap n / 2 ^ (8 * j) % 256).toNat
def putL (n : Int) (k : Nat) : List UInt8 := (List.range k).map (byteAt n)
def putS (s : ByteArray) (n : Int) (k : Nat) : ByteArray := ⟨(s.data.toList ++ putL n k).toArray⟩
@[go_sem] theorem putS_size (s : ByteArray) (n : Int) (k : Nat) : (putS s n k).size = s.size + k := by
  show (s.data.toList ++ putL n k).toArray.size = _
  simp [putL]
theorem putL_succ (n : Int) (j : Nat) : putL n (j + 1) = putL n j ++ [byteAt n j] := by simp [putL, List.range_succ]
theorem byteAt_cell (n : Int) (j : Nat) : Value.int .u8 (IntKind.u64.wrap n / 2 ^ (8 * j) % 256) = .int .u8 ((byteAt n j).toNat : Int) := by
  have h0 := Int.emod_nonneg (IntKind.u64.wrap n / 2 ^ (8 * j)) (show (256 : Int) ≠ 0 by decide)
  have h1 := Int.emod_lt_of_pos (IntKind.u64.wrap n / 2 ^ (8 * j)) (show (0 : Int) < 256 by decide)
  unfold byteAt
  rw [UInt8.toNat_ofNat']
  generalize IntKind.u64.wrap n / 2 ^ (8 * j) % 256 = z at *
  congr 1
  omega
set_option maxRecDepth 100000 in
theorem putd (s : ByteArray) (n : Int) (k : Nat) (hk : 1 ≤ k) (hk8 : k ≤ 8) (hs : s.size ≤ 1000000) (w : World) : Calls Tryz.prog 176 #[.string s, .int .i64 n, .int .i64 (k : Int)] w (Gives (.string (putS s n k)) w) := by
  have q1 : decide ((k : Int) < 1) = false := by simp; omega
  have q2 : decide (8 < (k : Int)) = false := by simp; omega
  go_enter Tryz.func176, Tryz.ntmps176
  go_wp2_with fail
  refine (Tryz.writeString w.heap.size w.heap.size [] s _ (Lib.fresh_isBuilder 329 5 w) (by simp; omega) (by simp)).mono ?_
  rintro e w1 ⟨rfl, h1, hb⟩
  go_wp2_with fail
  have HS := Hd.mk (And.intro h1 (((Below.refl _ _).alloc (Nat.le_refl _) _).trans hb))
  clear h1 hb
  go_loopw [19] (fun v wr => ∃ (j : Nat), j ≤ k ∧ v = .int .i64 (j : Int) ∧ Hd (Lib.BuilderAt 329 5 w.heap.size w.heap.size (.pointer (some ⟨w.heap.size, 0, none⟩)) (Lib.byteCells (s.data.toList ++ putL n j)) wr ∧ Below w.heap.size w wr)) (fun v _ => k - (intOf v).toNat)
  case atStart => exact ⟨0, by omega, rfl, ⟨by have h := HS.out.1; rw [List.nil_append] at h; rw [show putL n 0 = [] from rfl, List.append_nil]; exact h, HS.out.2⟩⟩
  case round =>
    obtain ⟨j, hj, rfl, HO⟩ := hrel
    by_cases hlt : j < k
    · have r1 : (0 : Int) ≤ 8 * (j : Int) := by omega
      have r2 : (8 : Int) * (j : Int) < 64 := by omega
      go_wp2_with fail
      refine (Tryz.writeByte w.heap.size w.heap.size (Lib.byteCells (s.data.toList ++ putL n j)) _ _ (Or.inr HO.out.1) (by rw [Lib.byteCells_length]; simp [putL]; have : s.data.size = s.size := rfl; omega) HO.out.2.size).mono ?_
      rintro e w2 ⟨rfl, h2, hb2⟩
      have HN : Hd (Lib.BuilderAt 329 5 w.heap.size w.heap.size (.pointer (some ⟨w.heap.size, 0, none⟩)) (Lib.byteCells (s.data.toList ++ putL n (j + 1))) w2 ∧ Below w.heap.size w w2) := by
        rw [byteAt_cell] at h2
        exact ⟨by rw [putL_succ]; simpa [Lib.byteCells] using h2, HO.out.2.trans hb2⟩
      clear h2 hb2
      go_wp2_with fail
      go_roundw
      case rel => exact ⟨j + 1, by omega, by go_num, HN⟩
      case measure => simp [intOf]; omega
    · obtain rfl : j = k := by omega
      go_wp2_with fail
      refine (Tryz.builderString w.heap.size w.heap.size _ _ (Or.inr HO.out.1) HO.out.2.size).mono ?_
      rintro e w2 ⟨rfl, hb2⟩
      have HF := Hd.mk (HO.out.2.trans hb2)
      clear hb2
      go_wp2_with fail
      go_ret
      exact ⟨rfl, HF.out⟩
/-- Zeros. -/
def zeroS (n : Nat) : ByteArray := ⟨(Lib.repeatL (ByteArray.mk #[0]).data.toList n).toArray⟩
theorem rep178 (n : Nat) (h : n ≤ 1000000) (w : World) : Calls Tryz.prog 178 #[.string ⟨#[0]⟩, .int .i64 (n : Int)] w (Gives (.string (zeroS n)) w) :=
  Tryz.strings_Repeat ⟨#[0]⟩ n w (by omega) (by show 1 * n ≤ _; omega)
@[go_sem] theorem zeroS_size (n : Nat) : (zeroS n).size = n := by
  show (Lib.repeatL _ n).toArray.size = n
  simp [Lib.repeatL_length]
theorem put1 (s : ByteArray) (n : Int) (hs : s.size ≤ 1000000) (w : World) : Calls Tryz.prog 176 #[.string s, .int .i64 n, .int .i64 1] w (Gives (.string (putS s n 1)) w) := putd s n 1 (by omega) (by omega) hs w
theorem put4 (s : ByteArray) (n : Int) (hs : s.size ≤ 1000000) (w : World) : Calls Tryz.prog 176 #[.string s, .int .i64 n, .int .i64 4] w (Gives (.string (putS s n 4)) w) := putd s n 4 (by omega) (by omega) hs w
theorem put8 (s : ByteArray) (n : Int) (hs : s.size ≤ 1000000) (w : World) : Calls Tryz.prog 176 #[.string s, .int .i64 n, .int .i64 8] w (Gives (.string (putS s n 8)) w) := putd s n 8 (by omega) (by omega) hs w
theorem rep12 (w : World) : Calls Tryz.prog 178 #[.string ⟨#[0]⟩, .int .i64 12] w (Gives (.string (zeroS 12)) w) := rep178 12 (by omega) w
/-- One block of a string has turned, and there is new memory. -/
structure Turned (g : Nat) (t : ByteArray) (w w' : World) : Prop where
  os : w'.os = w.os
  tape : w'.tape = w.tape
  output : w'.output = w.output
  size : w.heap.size ≤ w'.heap.size
  row : w'.heap[g]? = some (.cells #[.string t] 290 (0, 0))
  block : ∀ k, k < w.heap.size → k ≠ g → w'.heap[k]? = w.heap[k]?
theorem Turned.below {B g : Nat} {t : ByteArray} {w0 w w' : World} (h : Turned g t w w') (hb : Below B w0 w) (hg : B ≤ g) (hB : B ≤ w.heap.size) : Below B w0 w' :=
  hb.trans ⟨h.os, h.tape, h.output, h.size, fun k hk => h.block k (by omega) (by omega)⟩
theorem Turned.of {g : Nat} {t : ByteArray} {w w1 : World} (hb : Below w.heap.size w w1) (hg : g < w.heap.size) {s : ByteArray} (hr : w.heap[g]? = some (.cells #[.string s] 290 (0, 0))) : Turned g t w (w1.setCell ⟨g, 0, none⟩ (.string t)) :=
  ⟨hb.os, hb.tape, hb.output, by simpa using hb.size, heap_setCell_same w1 g 0 #[.string s] 290 (.string t) ((hb.block g hg).trans hr), fun k hk hne => (Below.heap_setCell _ _ _ _ hne).trans (hb.block k hk)⟩
def zcs : ByteArray := ⟨#[]⟩
def cellS (s : ByteArray) : ByteArray := (putS s 255 1 ++ zcs) ++ zeroS 12
theorem cellS_size (s : ByteArray) : (cellS s).size = s.size + 13 := by
  unfold cellS
  rw [ByteArray.size_append, ByteArray.size_append, putS_size, zeroS_size]
  rfl
def Celled (g : Nat) (s : ByteArray) (w : World) (e : Ending) (w' : World) : Prop := e = .returned (.tuple #[]) ∧ Turned g (cellS s) w w'
set_option maxRecDepth 100000 in
set_option maxHeartbeats 4000000 in
theorem cell177 (g : Nat) (s : ByteArray) (w : World) (hr : w.heap[g]? = some (.cells #[.string s] 290 (0, 0))) (hs : s.size ≤ 1000) : Calls Tryz.prog 177 #[.pointer (some ⟨g, 0, none⟩), .agg #[.bool false, .string ⟨#[]⟩]] w (Celled g s w) := by
  have hg : g < w.heap.size := (Array.getElem?_eq_some_iff.1 hr).1
  have hne : g ≠ w.heap.size := by omega
  have HR := Hd.mk hr
  obtain ⟨r1, r2, r3, r4, -⟩ := blk hr
  clear hr
  have HS := Hd.mk ((Pre.nil w).alloc #[.bool false, .string ⟨#[]⟩] 29 w.heap.size rfl)
  go_enter Tryz.func177, Tryz.ntmps177
  go_wp2_with fail
  have hw : ∀ W : World, Pre w.heap.size w [(w.heap.size, #[.bool false, .string ⟨#[]⟩], 29)] W → Hd (Pre w.heap.size w [(w.heap.size, #[.bool false, .string ⟨#[]⟩], 29)] W) ∧ W.cell? ⟨g, 0, none⟩ = some (.string s) ∧ W.frozen? ⟨g, 0, none⟩ = false ∧ W.cell? ⟨w.heap.size, 1, none⟩ = some (.string ⟨#[]⟩) := fun W hW => by
    have h1 := (hW.below.block g hg).trans HR.out
    exact ⟨⟨hW⟩, by rw [cell_of_row W g 0 _ _ _ h1]; rfl, frozen_of_row W g 0 _ _ h1, by rw [(hW.facts w.heap.size #[.bool false, .string ⟨#[]⟩] 29 (by simp)).2.2.1]; rfl⟩
  have wr12 : IntKind.i64.wrap 12 = 12 := by decide
  have n1 : ¬ 9223372036854775807 < s.size + 1 := by omega
  have n2 : ¬ 9223372036854775807 < s.size + 1 + 12 := by omega
  have HW := Hd.mk hw
  clear hw r1 r2 r3 r4
  obtain ⟨-, k1, k2, k3⟩ := HW.out _ HS.out
  go_region_with (first | (go_at_call 176; (with_reducible refine (put1 s 255 (by omega) _).mono ?_); rintro e w1 ⟨rfl, hb⟩; (first | (have S := HS2.out.step hb) | (have S := (HS.out.step (Below.refl _ _).drew).step hb)); have HS1 := Hd.mk S; clear S hb; obtain ⟨-, c1, c2, c3⟩ := HW.out _ HS1.out) | (go_at_call 178; (with_reducible refine (rep12 _).mono ?_); rintro e w2 ⟨rfl, hb⟩; (first | (have S := HS1.out.step hb) | (have S := (HS.out.step (Below.refl _ _).drew).step hb)); have HS2 := Hd.mk S; clear S hb; obtain ⟨-, d1, d2, d3⟩ := HW.out _ HS2.out))
  all_goals
    go_end0
    first | exact ⟨rfl, Turned.of HS2.out.below hg HR.out⟩ | exact ⟨rfl, Turned.of HS1.out.below hg HR.out⟩
end Go.Proofs.YtcjmejokgoefkaaGreat
