/- The walk of the law BackgroundExact: it returns true and leaves old memory as it was. -/
import Derived.Test.YtiebdcejlkeoiaaBgDraw
namespace Go.Proofs.Ytiebdcejlkeoiaa
open Go.RowKit
set_option linter.unusedSimpArgs false
set_option linter.unusedVariables false

/-! ### two queues in a slice -/
@[irreducible] def qqA (p q : Qu) : Array Value := quA p ++ quA q
@[go_sem ↓ high] theorem bsl74 (n : Nat) (parts : Array (Nat × Value)) : Instr.buildSlice 74 n parts = bsl 74 n parts := bsl_eq _ _ _
@[go_sem] theorem run_bsl74 (w : World) (p q : Qu) : (bsl 74 2 #[(0, .agg (quA p)), (1, .agg (quA q))]).run Try.prog w = .ok (.slice (some ⟨w.heap.size, 0, none⟩) 2 2) (w.alloc (.cells (qqA p q) 64)) := by
  rw [← bsl_eq]; unfold qqA quA; kernel_rfl
def qAt (p q : Qu) : Nat → Qu | 0 => p | _ => q
theorem qqA_at (p q : Qu) (k j : Nat) (hk : k < 2) (hj : j < 10) : (qqA p q)[k * 10 + j]? = (quA (qAt p q k))[j]? := by
  unfold qqA
  have s1 := quA_size p
  rcases k with _ | _ | k
  · simp only [qAt, Nat.zero_mul, Nat.zero_add]
    rw [Array.getElem?_append_left (by omega)]
  · simp only [qAt, Nat.zero_add, Nat.one_mul]
    rw [Array.getElem?_append_right (by omega), s1, Nat.add_sub_cancel_left]
  · exfalso; omega
theorem run_ld64m {w : World} {g k : Nat} {p q : Qu} (h : ∀ o, w.cell? ⟨g, o, none⟩ = (qqA p q)[o]?) (hk : k < 2) : (ldv 64 ⟨g, k * 10, none⟩).run Try.prog w = .ok (.agg (quA (qAt p q k))) w := by
  rw [← ldv_eq]
  have := run_loadVar_mid (P := Try.prog) w g (k * 10) 64 (quA (qAt p q k)).toList _ (fun j v hj => by
    have hjl : j < 10 := by
      have := (List.getElem?_eq_some_iff.1 hj).1
      simpa [quA_size] using this
    rw [h, qqA_at p q k j hk hjl]
    simpa using hj) Try.underlying64 rfl (by rw [info64]; simp [quA_size])
  simpa using this

set_option maxHeartbeats 8000000 in
set_option maxRecDepth 100000 in
theorem bgexact_walk (a : Option Addr) (n cap : Nat) (raw : Qu) (w : World) (h : IsBytes w a n cap) : Calls Try.prog 9 #[.slice a n cap, .agg (quA raw)] w fun e w' => e = .returned (.bool true) ∧ Below w.heap.size w w' := by
  go_enter Try.func9, Try.ntmps9
  go_wp2_with fail
  obtain ⟨g0, hg0⟩ : ∃ g, g = w.heap.size := ⟨_, rfl⟩
  have HG0 := Hd.mk hg0
  refine (awake34 _).mono ?_
  rintro e w1 ⟨rfl, hb1⟩
  have Q0 : Pre g0 w [(g0, quA raw, 64)] w1 := by
    rw [hg0]; exact ((Pre.nil w).alloc (quA raw) 64 w.heap.size rfl).step hb1
  have H := Hd.mk (h.below' (by have := Q0.below; rw [hg0] at this; exact this))
  have HQ := Hd.mk Q0
  rw [← hg0]
  clear h hb1 Q0 hg0
  go_wp2_with fail
  refine (new_any a n cap 400 _ (by omega) (by omega) H.out).mono ?_
  rintro e w2 ⟨c, hc, hC, rfl, hb2⟩
  have S := HQ.out.sk hb2 hC hc
  clear H HQ hC hb2 hc
  have HS := Hd.mk S
  clear S
  go_wp2_with fail
  refine (shares35 c _ HS.out.cds).mono ?_
  rintro e w3 ⟨s, rfl, hd⟩
  have S := (HS.out.dr hd).alloc (shA s) 61 w3.heap.size rfl
  have l1 := run_ld61 _ w3.heap.size s (S.at w3.heap.size (shA s) 61 (by simp)).1
  clear HS hd
  have HS := Hd.mk S
  clear S
  go_wp2_with fail
  refine (new36 s _).mono ?_
  rintro e w4 ⟨rfl, hb⟩
  have S := (HS.out.step hb).alloc (quA (newF s).1) 64 w4.heap.size rfl
  clear l1 hb HS
  have l1 := run_ld61 _ w3.heap.size s (S.at w3.heap.size (shA s) 61 (by simp)).1
  have HS := Hd.mk S
  clear S
  go_wp2_with fail
  refine (new40 s _).mono ?_
  rintro e w5 ⟨rfl, hb⟩
  have S := HS.out.step hb
  have HC5 := Hd.mk S.cds.lt
  have HG5 : Hd (g0 < w5.heap.size) := ⟨S.lt (x := (g0, quA raw, 64)) (by simp)⟩
  replace S := S.alloc (quA (newF s).1) 64 w5.heap.size rfl
  clear l1 hb HS
  obtain ⟨b1, b2, -, -⟩ := S.at w4.heap.size (quA (newF s).1) 64 (by simp)
  obtain ⟨c1, c2, -, -⟩ := S.at w5.heap.size (quA (newF s).1) 64 (by simp)
  have HS := Hd.mk (S.sub (l' := [(w5.heap.size, quA (newF s).1, 64), (g0, quA raw, 64)]) (fun z hz => by simp at hz ⊢; rcases hz with rfl | rfl <;> simp))
  clear S
  generalize (newF s).1 = r0 at *
  generalize (newF s).2 = e0 at *
  have e1 := quEq_refl r0
  go_wp2_with fail
  obtain ⟨g9, hg9⟩ : ∃ g, g = w5.heap.size := ⟨_, rfl⟩
  rw [← hg9] at HS HC5 HG5 ⊢
  clear b1 b2 c1 c2 hg9 e1
  go_loopw [11] (fun v wr => ∃ (j : Nat) (r : Qu), j ≤ 30 ∧ v = .int .i64 (j : Int) ∧ Hd (Sk c g0 w [(g9, quA r, 64), (g0, quA raw, 64)] wr)) (fun v _ => 30 - (intOf v).toNat)
  case atStart => exact ⟨0, _, by omega, rfl, HS⟩
  case round =>
    clear HS
    obtain ⟨j, r, hj, rfl, HS⟩ := hrel
    obtain ⟨wq, rfl⟩ : ∃ W : World, W = wr := ⟨_, rfl⟩
    by_cases hlt : j < 30
    · have q1 : (j : Int) < 30 := by omega
      go_wp2_with fail
      refine (offers37 c _ HS.out.cds).mono ?_
      rintro e w0 ⟨v, l, hl, rfl, hown, hd⟩
      obtain ⟨al, cl, rfl⟩ := own_len hown
      have HWK := Hd.mk (own_wks hown)
      have S := HS.out.dr hd
      clear hown hd HS
      obtain ⟨b1, b2, b3, b4⟩ := S.at g9 (quA r) 64 (by simp)
      obtain ⟨c1, c2, c3, c4⟩ := S.at g0 (quA raw) 64 (by simp)
      have HB := Hd.mk ((Below.refl _ _).alloc (Nat.le_refl w0.heap.size) (.cells (qqA r raw) 64))
      have HS := Hd.mk (S.alloc (qqA r raw) 64 w0.heap.size rfl)
      have HGS : Hd (c < w0.heap.size) := ⟨S.cds.lt⟩
      clear S
      go_wp2_with fail
      obtain ⟨gs, hgs⟩ : ∃ g, g = w0.heap.size := ⟨_, rfl⟩
      rw [← hgs] at HS HGS ⊢
      clear hgs b1 b2 b3 b4 c1 c2 c3 c4
      go_loopw [61] (fun v wr => ∃ k : Nat, k ≤ 2 ∧ v = .int .i64 (k : Int) ∧ Hd (Below w0.heap.size w0 wr) ∧ Hd (Sk c g0 w [(gs, qqA r raw, 64), (g9, quA r, 64), (g0, quA raw, 64)] wr)) (fun v _ => 2 - (intOf v).toNat)
      case atStart => exact ⟨0, by omega, rfl, HB, HS⟩
      case round =>
        clear HS HB
        obtain ⟨k, hk, rfl, HB, HS⟩ := hrel
        obtain ⟨wq2, rfl⟩ : ∃ W : World, W = wr := ⟨_, rfl⟩
        by_cases hlt2 : k < 2
        · have q2 : (k : Int) < 2 := by omega
          have q3 : (0 : Int) ≤ k := by omega
          have l1 := run_ld64m (HS.out.cellsAt gs (qqA r raw) 64 (by simp)).1 hlt2
          generalize qAt r raw k = Z at l1
          have HS1 := Hd.mk (HS.out.alloc (quA Z) 64 wq2.heap.size rfl)
          have HB1 := Hd.mk (HB.out.alloc HB.out.size (.cells (quA Z) 64))
          clear HS HB
          go_wp2_with fail
          refine (next38 al cl l Z _ (by omega) (HWK.out.below HB1.out)).mono ?_
          rintro e w6 ⟨rfl, hb⟩
          generalize hR : nextF Z l = R
          have HR := Hd.mk hR
          obtain ⟨x, ⟨y, z⟩, ok, e⟩ := R
          dsimp only
          have HS2 := Hd.mk (((HS1.out.step hb).alloc (quA x) 64 w6.heap.size rfl).alloc #[.int .i64 y, .int .i64 z] 70 (w6.heap.size + 1) (by simp))
          have HB2a := HB1.out.trans (hb.mono HB1.out.size)
          have HB2 := Hd.mk ((HB2a.alloc HB2a.size (.cells (quA x) 64)).alloc (Nat.le_trans HB2a.size (by simp)) (.cells #[.int .i64 y, .int .i64 z] 70))
          clear hb hR l1 HS1 HB1 HB2a
          obtain ⟨b1, b2, b3, b4⟩ := HS2.out.at wq2.heap.size (quA Z) 64 (by simp)
          go_wp2_with fail
          refine (next41 al cl l Z _ (by omega) (HWK.out.below HB2.out)).mono ?_
          rintro e' w7 ⟨rfl, hb⟩
          rw [HR.out]
          dsimp only
          have S3 := ((HS2.out.step hb).alloc (quA x) 64 w7.heap.size rfl).alloc #[.int .i64 y, .int .i64 z] 70 (w7.heap.size + 1) (by simp)
          have HB3a := HB2.out.trans (hb.mono HB2.out.size)
          have HB3 := Hd.mk ((HB3a.alloc HB3a.size (.cells (quA x) 64)).alloc (Nat.le_trans HB3a.size (by simp)) (.cells #[.int .i64 y, .int .i64 z] 70))
          clear hb HS2 HB2 HB3a b1 b2 b3 b4 HR
          have HS3 := Hd.mk S3
          clear S3
          go_wp2_with fail
          have HS4 := HS3
          generalize hW4 : (w7.alloc (.cells (quA x) 64)).alloc (.cells #[.int .i64 y, .int .i64 z] 70) = W4 at HS3 HS4 HB3 ⊢
          clear hW4 HS3
          have hw : ∀ W : World, Sk c g0 w [(w7.heap.size + 1, #[.int .i64 y, .int .i64 z], 70), (w7.heap.size, quA x, 64), (w6.heap.size + 1, #[.int .i64 y, .int .i64 z], 70), (w6.heap.size, quA x, 64), (wq2.heap.size, quA Z, 64), (gs, qqA r raw, 64), (g9, quA r, 64), (g0, quA raw, 64)] W → Hd (Sk c g0 w [(w7.heap.size + 1, #[.int .i64 y, .int .i64 z], 70), (w7.heap.size, quA x, 64), (w6.heap.size + 1, #[.int .i64 y, .int .i64 z], 70), (w6.heap.size, quA x, 64), (wq2.heap.size, quA Z, 64), (gs, qqA r raw, 64), (g9, quA r, 64), (g0, quA raw, 64)] W) ∧ rowAt W w6.heap.size = quA x ∧ rowAt W w7.heap.size = quA x ∧ rowAt W wq2.heap.size = quA Z ∧ (∀ o, W.cell? ⟨w6.heap.size + 1, o, none⟩ = (#[.int .i64 y, .int .i64 z] : Array Value)[o]?) ∧ (∀ o, W.cell? ⟨w7.heap.size + 1, o, none⟩ = (#[.int .i64 y, .int .i64 z] : Array Value)[o]?) :=
            fun W hW => ⟨⟨hW⟩, (hW.at w6.heap.size (quA x) 64 (by simp)).1, (hW.at w7.heap.size (quA x) 64 (by simp)).1, (hW.at wq2.heap.size (quA Z) 64 (by simp)).1, (hW.cellsAt (w6.heap.size + 1) #[.int .i64 y, .int .i64 z] 70 (by simp)).1, (hW.cellsAt (w7.heap.size + 1) #[.int .i64 y, .int .i64 z] 70 (by simp)).1⟩
          have HWW := Hd.mk hw
          clear hw
          have e1 := quEq_refl x
          (first | go_region_held3 (fun W => Hd (Sk c g0 w [(w7.heap.size + 1, #[.int .i64 y, .int .i64 z], 70), (w7.heap.size, quA x, 64), (w6.heap.size + 1, #[.int .i64 y, .int .i64 z], 70), (w6.heap.size, quA x, 64), (wq2.heap.size, quA Z, 64), (gs, qqA r raw, 64), (g9, quA r, 64), (g0, quA raw, 64)] W) ∧ rowAt W w6.heap.size = quA x ∧ rowAt W w7.heap.size = quA x ∧ rowAt W wq2.heap.size = quA Z ∧ (∀ o, W.cell? ⟨w6.heap.size + 1, o, none⟩ = (#[.int .i64 y, .int .i64 z] : Array Value)[o]?) ∧ (∀ o, W.cell? ⟨w7.heap.size + 1, o, none⟩ = (#[.int .i64 y, .int .i64 z] : Array Value)[o]?)) (first | exact HWW.out _ HS4.out | exact HWW.out _ (HS4.out.dr (Dr.drew c _)) | exact HWW.out _ ((HS4.out.dr (Dr.drew c _)).step hA) | exact HWW.out _ ((HS4.out.dr (Dr.drew c _)).step hB) | exact HWW.out _ (((HS4.out.dr (Dr.drew c _)).step hA).step hB) | exact HWW.out _ (((HS4.out.dr (Dr.drew c _)).step hB).step hA) | exact HWW.out _ ((((HS4.out.dr (Dr.drew c _)).step hA).step hB).step hC) | exact HWW.out _ ((((HS4.out.dr (Dr.drew c _)).step hA).step hB).step hD) | exact HWW.out _ ((((HS4.out.dr (Dr.drew c _)).step hB).step hA).step hC) | exact HWW.out _ ((((HS4.out.dr (Dr.drew c _)).step hB).step hA).step hD) | exact HWW.out _ (((((HS4.out.dr (Dr.drew c _)).step hA).step hB).step hC).step hD) | exact HWW.out _ (((((HS4.out.dr (Dr.drew c _)).step hA).step hB).step hD).step hC) | exact HWW.out _ (((((HS4.out.dr (Dr.drew c _)).step hB).step hA).step hC).step hD) | exact HWW.out _ (((((HS4.out.dr (Dr.drew c _)).step hB).step hA).step hD).step hC)) (first | (go_at_call 39; refine (valid39 Z _).mono ?_; rintro e wA ⟨rfl, hA⟩) | (go_at_call 42; refine (valid42 Z _).mono ?_; rintro e wB ⟨rfl, hB⟩) | (go_at_call 43; refine (round43 Z _).mono ?_; rintro e wC ⟨rfl, hC⟩) | (go_at_call 44; refine (round44 Z _).mono ?_; rintro e wD ⟨rfl, hD⟩)) | fail)
          have HS5 := Hd.mk (((((HS4.out.dr (Dr.drew c _)).step hA).step hB).step hC).step hD)
          have f1 := HB3.out.drew.trans (hA.mono HB3.out.size)
          have f2 := f1.trans (hB.mono f1.size)
          have f3 := f2.trans (hC.mono f2.size)
          have HB5 := Hd.mk (f3.trans (hD.mono f3.size))
          clear f1 f2 f3 hA hB hC hD HB3 HS4 HWW e1
          go_wp2_with fail
          go_roundw
          case rel => exact ⟨k + 1, by omega, by go_num, HB5, ⟨HS5.out.sub (fun z hz => by simp at hz ⊢; rcases hz with rfl | rfl | rfl <;> simp)⟩⟩
          case measure => simp [intOf]; omega
        · obtain ⟨b1, b2, b3, b4⟩ := HS.out.at g9 (quA r) 64 (by simp)
          go_wp2_with fail
          refine (next41 al cl l r _ (by omega) (HWK.out.below HB.out)).mono ?_
          rintro e' w6 ⟨rfl, hb⟩
          generalize nextF r l = R
          obtain ⟨x, ⟨y, z⟩, ok, e⟩ := R
          dsimp only
          have HC6 := Hd.mk (HS.out.step hb).cds.lt
          have HG6 : Hd (g9 < w6.heap.size) := ⟨(HS.out.step hb).lt (x := (g9, quA r, 64)) (by simp)⟩
          have S := ((HS.out.step hb).alloc (quA x) 64 w6.heap.size rfl).alloc #[.int .i64 y, .int .i64 z] 70 (w6.heap.size + 1) (by simp)
          clear hb HS HB b1 b2 b3 b4
          by_cases he : e = 0
          case pos =>
            have e2 : (e == 0) = true := by simp [he]
            clear he
            obtain ⟨b1, b2, b3, b4⟩ := S.at g9 (quA r) 64 (by simp)
            obtain ⟨c1, c2, c3, c4⟩ := S.at w6.heap.size (quA x) 64 (by simp)
            have S1 := S.sub (l' := [(g9, quA r, 64), (g0, quA raw, 64)]) (fun z hz => by simp at hz ⊢; rcases hz with rfl | rfl <;> simp)
            have HS5 := Hd.mk (S1.setRow g9 (quA r) (quA x) 64 (by simp) HC5.out (l' := [(g0, quA raw, 64)]) (fun z hz => ⟨List.mem_cons_of_mem _ hz, by simp at hz; subst hz; have := HG5.out; dsimp only; omega⟩))
            clear S S1
            go_wp2_with fail
            go_roundw
            case rel => exact ⟨j + 1, x, by omega, by go_num, HS5⟩
            case measure => simp [intOf]; omega
          case neg =>
            have e2 : (e == 0) = false := by simpa using he
            clear he
            have HS5 := Hd.mk (S.sub (l' := [(g9, quA r, 64), (g0, quA raw, 64)]) (fun z hz => by simp at hz ⊢; rcases hz with rfl | rfl <;> simp))
            clear S
            go_wp2_with fail
            go_roundw
            case rel => exact ⟨j + 1, r, by omega, by go_num, HS5⟩
            case measure => simp [intOf]; omega
    · go_wp2_with fail
      go_ret
      exact ⟨rfl, by have := HS.out.below; rw [HG0.out] at this; exact this⟩
end Go.Proofs.Ytiebdcejlkeoiaa
