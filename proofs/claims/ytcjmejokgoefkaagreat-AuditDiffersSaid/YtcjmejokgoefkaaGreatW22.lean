import Derived.Test.YtcjmejokgoefkaaGreatW20
import Derived.Test.YtcjmejokgoefkaaGreatW21
import Derived.Test.YtcjmejokgoefkaaGreatW15
import Derived.Deep.DeepCutAuto
namespace Go.Proofs.YtcjmejokgoefkaaGreat
open Go.RowKit
set_option linter.unusedSimpArgs false
set_option linter.unusedVariables false
theorem Pre.sub {B : Nat} {w0 w : World} {l l' : Ents} (h : Pre B w0 l w) (hs : ∀ x ∈ l', x ∈ l) : Pre B w0 l' w := ⟨h.below, h.hB, fun x hx => h.mem x (hs x hx)⟩
def Coded (w : World) (e : Ending) (w' : World) : Prop := ∃ t : ByteArray, e = .returned (.tuple #[.string t, .int .i64 0]) ∧ Below w.heap.size w w'
def headS (id : Int) : ByteArray := putS (putS ⟨#[]⟩ 0 8) id 4
theorem headS_size (id : Int) : (headS id).size = 12 := by unfold headS; rw [putS_size, putS_size]; rfl
theorem Pre.turned {B : Nat} {w0 w w' : World} {l l' : Ents} (h : Pre B w0 l w) {g : Nat} {t : ByteArray} (T : Turned g t w w') (hg : B ≤ g) (hl : ∀ x ∈ l', x ∈ l ∧ x.1 ≠ g) : Pre B w0 ((g, #[.string t], 290) :: l') w' := by
  refine ⟨T.below h.below hg h.hBw, h.hB, fun x hx => ?_⟩
  rcases List.mem_cons.1 hx with rfl | hx
  · exact ⟨hg, T.row⟩
  · exact ⟨(h.mem x (hl x hx).1).1, by rw [T.block x.1 (h.lt (hl x hx).1) (hl x hx).2]; exact (h.mem x (hl x hx).1).2⟩
theorem rep24 (w : World) : Calls Tryz.prog 178 #[.string ⟨#[0]⟩, .int .i64 24] w (Gives (.string (zeroS 24)) w) := rep178 24 (by omega) w
/-- What the loop over the cells keeps. -/
def Kept (w : World) (id : Int) (gb k : Nat) (wr : World) : Prop := ∃ t : ByteArray, t.size = 12 + 13 * k ∧ Pre w.heap.size w [(gb, #[.string t], 290), (w.heap.size, pgA (npg id), 32)] wr
theorem Kept.next {w wr w' : World} {id : Int} {gb k : Nat} {t : ByteArray} (ht : t.size = 12 + 13 * k) (h : Pre w.heap.size w [(gb, #[.string t], 290), (w.heap.size, pgA (npg id), 32)] wr) (hne : w.heap.size ≠ gb) (T : Turned gb (cellS t) wr w') : Kept w id gb (k + 1) w' := by
  refine ⟨cellS t, by rw [cellS_size]; omega, h.turned T (h.mem (gb, #[.string t], 290) (by simp)).1 ?_⟩
  intro x hx
  rcases List.mem_cons.1 hx with rfl | hx
  · exact ⟨by simp, hne⟩
  · cases hx
set_option maxRecDepth 100000 in
set_option maxHeartbeats 8000000 in
theorem encode149 (id : Int) (w : World) (h0 : 0 ≤ id) (h1 : id ≤ 1) : Calls Tryz.prog 149 #[.agg (pgA (npg id))] w (Coded w) := by
  have HS := Hd.mk ((Pre.nil w).alloc (pgA (npg id)) 32 w.heap.size (by simp))
  go_enter Tryz.func149, Tryz.ntmps149
  go_wp2_with fail
  refine (placed135 id _ h0 h1).mono ?_
  rintro e w1 ⟨rfl, hb⟩
  replace HS := Hd.mk (HS.out.step hb)
  clear hb
  obtain ⟨b01, b02, b03, b04, b05, b06, b07, b08⟩ := HS.out.facts w.heap.size (pgA (npg id)) 32 (by simp)
  go_wp2_with fail
  refine (cells136 id _).mono ?_
  rintro e w2 ⟨rfl, hb⟩
  replace HS := Hd.mk (HS.out.step hb)
  clear hb b01 b02 b03 b04 b05 b06 b07 b08
  obtain ⟨b01, b02, b03, b04, b05, b06, b07, b08⟩ := HS.out.facts w.heap.size (pgA (npg id)) 32 (by simp)
  go_upto_region 5 with fail
  go_cut [4] (fun y wx => ∃ gb : Nat, y = .pointer (some ⟨gb, 0, none⟩) ∧ Hd (w.heap.size ≠ gb ∧ Kept w id gb 0 wx))
  case first =>
    go_region_with (first | (go_at_call 176; (with_reducible refine (put8 _ _ (by decide) _).mono ?_); rintro e u ⟨rfl, hb⟩; have HT := Hd.mk ((HS.out.step (Below.refl _ _).drew).step hb); clear hb; obtain ⟨d01, d02, d03, d04, d05, d06, d07, d08⟩ := HT.out.facts w.heap.size (pgA (npg id)) 32 (by simp)) | (go_at_call 176; (with_reducible refine (put4 _ _ (by rw [putS_size]; decide) _).mono ?_); rintro e v ⟨rfl, hb⟩; have HU := Hd.mk (HT.out.step hb); clear hb; obtain ⟨f01, f02, f03, f04, f05, f06, f07, f08⟩ := HU.out.facts w.heap.size (pgA (npg id)) 32 (by simp)))
    all_goals
      go_wp2_with fail
      go_meet
      exact ⟨v.heap.size, rfl, ⟨by omega, headS id, by rw [headS_size], HU.out.alloc _ _ _ rfl⟩⟩
  case rest =>
    obtain ⟨gb, rfl, HG⟩ := hcut
    have hne := HG.out.1
    have h0 : (ldv 30 ⟨w.heap.size, 2, none⟩).run Tryz.prog wc = .ok (.agg caA) wc := by
      obtain ⟨t, -, hp⟩ := HG.out.2
      exact run_ld30 wc w.heap.size id (hp.facts w.heap.size (pgA (npg id)) 32 (by simp)).1
    clear b01 b02 b03 b04 b05 b06 b07 b08
    go_wp2_with fail
    clear h0
    go_loopw [29] (fun y wr => ∃ k : Nat, k ≤ 16 ∧ y = .int .i64 (k : Int) ∧ Hd (Kept w id gb k wr)) (fun y _ => 16 - (intOf y).toNat)
    case atStart => exact ⟨0, by omega, rfl, ⟨HG.out.2⟩⟩
    case round =>
      obtain ⟨k, hk, rfl, HO⟩ := hrel
      obtain ⟨t, ht, hp⟩ := HO.out
      have HT2 := Hd.mk ht
      have HP := Hd.mk hp
      by_cases hlt : k < 16
      · have h1 := run_ix30 wr k hlt
        have q1 : (k : Int) < 16 := by omega
        have q2 : t.size ≤ 1000 := by omega
        clear hp ht
        go_wp2_with fail
        refine (cell177 gb t _ ((HP.out.step ((Below.refl _ _).alloc (Nat.le_refl _) _)).mem (gb, #[.string t], 290) (by simp)).2 q2).mono ?_
        rintro e w9 ⟨rfl, hT⟩
        have HN := Hd.mk (Kept.next HT2.out (HP.out.step ((Below.refl _ _).alloc (Nat.le_refl _) (.cells #[.bool false, .string ⟨#[]⟩] 29))) hne hT)
        clear hT h1
        go_wp2_with fail
        go_roundw
        case rel => exact ⟨k + 1, by omega, by go_num, HN⟩
        case measure => simp [intOf]; omega
      · obtain rfl : k = 16 := by omega
        clear hp
        obtain ⟨g1, g2, g3, g4, g5, g6, g7, g8⟩ := HP.out.facts gb #[.string t] 290 (by simp)
        obtain ⟨f1, f2, f3, f4, f5, f6, f7, f8⟩ := HP.out.facts w.heap.size (pgA (npg id)) 32 (by simp)
        have ht2 : t.size = 220 := ht
        clear ht
        have wr24 : IntKind.i64.wrap 24 = 24 := by decide
        go_upto_region 12 with fail
        go_cut [8] (fun y wx => ∃ s : ByteArray, y = .string s ∧ Hd (s.size = 244 ∧ Pre w.heap.size w [(w.heap.size, pgA (npg id), 32)] wx))
        case first =>
          go_region_with (first | (go_at_call 178; (with_reducible refine (rep24 _).mono ?_); rintro e v1 ⟨rfl, hb⟩; have HB := Hd.mk ((HP.out.step (Below.refl _ _).drew).step hb); clear hb; obtain ⟨m1, m2, m3, m4, m5, m6, m7, m8⟩ := HB.out.facts gb #[.string t] 290 (by simp)))
          all_goals
            go_wp2_with fail
            go_meet
            exact ⟨_, rfl, ⟨by rw [ByteArray.size_append, zeroS_size, HT2.out], HB.out.sub (fun x hx => List.mem_cons_of_mem _ hx)⟩⟩
        case rest =>
          obtain ⟨s, rfl, HC⟩ := hcut
          clear ht2 g1 g2 g3 g4 g5 g6 g7 g8 f1 f2 f3 f4 f5 f6 f7 f8
          have HS9 := Hd.mk HC.out.2
          obtain ⟨f1, f2, f3, f4, f5, f6, f7, f8⟩ := HS9.out.facts w.heap.size (pgA (npg id)) 32 (by simp)
          have hs9 : s.size ≤ 1000 := by have := HC.out.1; omega
          go_upto_region 13 with fail
          go_region_with (first | (go_at_call 179; (with_reducible refine (sum179 s (by omega) _).mono ?_); rintro e v1 ⟨c, rfl, hb⟩; have HB := Hd.mk ((HS9.out.step (Below.refl _ _).drew).step hb); clear hb; obtain ⟨m1, m2, m3, m4, m5, m6, m7, m8⟩ := HB.out.facts w.heap.size (pgA (npg id)) 32 (by simp)) | (go_at_call 176; (with_reducible refine (put4 s _ (by omega) _).mono ?_); rintro e v2 ⟨rfl, hb⟩; replace HB := Hd.mk (HB.out.step hb); clear hb m1 m2 m3 m4 m5 m6 m7 m8; obtain ⟨m1, m2, m3, m4, m5, m6, m7, m8⟩ := HB.out.facts w.heap.size (pgA (npg id)) 32 (by simp)) | (go_at_call 176; (with_reducible refine (put8 _ _ (by rw [putS_size]; omega) _).mono ?_); rintro e v3 ⟨rfl, hb⟩; replace HB := Hd.mk (HB.out.step hb); clear hb))
          all_goals
            go_wp2_with fail
            go_ret2
            exact ⟨_, rfl, HB.out.below⟩
end Go.Proofs.YtcjmejokgoefkaaGreat
