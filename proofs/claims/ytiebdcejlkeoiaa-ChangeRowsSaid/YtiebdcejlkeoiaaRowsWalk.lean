/- The walk of the law ChangeRows: it returns true and leaves old memory as it was. -/
import Derived.Test.YtiebdcejlkeoiaaChain
import Derived.Test.YtiebdcejlkeoiaaApply
import Derived.Deep.RegionHeld3
import Derived.Deep.DeepCutAuto
import Derived.Deep.AppendLies
namespace Go.Proofs.Ytiebdcejlkeoiaa
open Go.RowKit
set_option linter.unusedSimpArgs false
set_option linter.unusedVariables false

theorem pendD {c : Nat} {wr w7 : World} {z : Obj} (h : Dr c (wr.alloc z).drew w7) (hC : Cds wr c) : w7.heap[wr.heap.size]? = some z := by
  have := hC.lt
  rw [h.block _ (by simp) (by omega)]
  exact heap_alloc_new wr z
theorem lt_of_drew {c B g : Nat} {w0 wr w7 : World} {a : Array Value} {t : TypeId} {l : Ents} (h : Sk c B w0 ((g, a, t) :: l) wr) (hd : Dr c wr.drew w7) : g < w7.heap.size :=
  Nat.lt_of_lt_of_le (h.lt (x := (g, a, t)) (List.mem_cons_self ..)) hd.size
theorem sk_pend {c B : Nat} {w0 wr w7 : World} {l : Ents} (h : Sk c B w0 l wr) {z : Array Value} {t : TypeId} (hd : Dr c (wr.alloc (.cells z t)).drew w7) (cs : Array Value) : Sk c B w0 ((wr.heap.size, cs, t) :: l) (w7.setRow wr.heap.size cs) :=
  (((h.alloc z t _ rfl).dr ((Dr.drew c _).trans hd))).setRow wr.heap.size z cs t (List.mem_cons_self ..) h.cds.lt (fun x hx => ⟨List.mem_cons_of_mem _ hx, Nat.ne_of_lt (h.lt hx)⟩)
theorem sk_pend' {c B : Nat} {w0 wr w7 : World} {l : Ents} (h : Sk c B w0 l wr) {z : Array Value} {t : TypeId} (hd : Dr c (wr.alloc (.cells z t)).drew w7) (cs : Array Value) : Sk c B w0 l (w7.setRow wr.heap.size cs) :=
  (sk_pend h hd cs).sub (fun x hx => List.mem_cons_of_mem _ hx)
theorem own_pend {c base : Nat} {wr w7 : World} {e : TypeId} {size : Nat} {v : Value} {n : Nat} {xs : List Value} (h : wr.ownsRow base e size v n xs) {z : Obj} (hd : Dr c (wr.alloc z).drew w7) (hc : c < base) (cs : Array Value) : (w7.setRow wr.heap.size cs).ownsRow base e size v n xs :=
  own_blk h fun k h1 h2 => by
    rw [setRow_other _ _ _ _ (by omega), hd.block k (by simp; omega) (by omega)]
    show (wr.alloc z).heap[k]? = _
    rw [heap_alloc_if, if_neg (by omega)]
theorem heap_alloc_drew {w : World} {o x : Obj} {b : Nat} (h : w.heap[b]? = some x) (hl : b < w.heap.size) : (w.alloc o).drew.heap[b]? = some x := by
  show (w.alloc o).heap[b]? = _
  rw [heap_alloc_if, if_neg (by omega)]; exact h
theorem cut_is (m r : Nat) (hr : r < 8) : ∃ kk : Nat, 1 ≤ kk ∧ kk < r + 2 ∧ wrap64 (1 + (m : Int) % ((r : Int) + 2 - 1)) = (kk : Int) := by
  have e : (r : Int) + 2 - 1 = ((r + 1 : Nat) : Int) := by omega
  rw [e, ← Int.natCast_emod]
  have h := Nat.mod_lt m (show 0 < r + 1 by omega)
  refine ⟨1 + m % (r + 1), by omega, by omega, ?_⟩
  rw [IntWalk.wrap64_in _ (by omega)]
  omega

set_option maxHeartbeats 8000000 in
set_option maxRecDepth 100000 in
theorem rows_walk (a : Option Addr) (n cap : Nat) (m : Nat) (w : World) (h : IsBytes w a n cap) (hm : m < 256) : Calls Try.prog 5 #[.slice a n cap, .int .u8 (m : Int)] w fun e w' => e = .returned (.bool true) ∧ Below w.heap.size w w' := by
  go_enter Try.func5, Try.ntmps5
  go_wp2_with fail
  refine (awake12 _).mono ?_
  rintro e w1 ⟨rfl, hb1⟩
  have Q0 : Pre w.heap.size w [] w1 := (Pre.nil w).step hb1
  have H := Hd.mk (h.below' Q0.below)
  have HQ := Hd.mk Q0
  clear h hb1 Q0
  go_wp2_with fail
  refine (new_any a n cap 200 _ (by omega) (by omega) H.out).mono ?_
  rintro e w2 ⟨c, hc, hC, rfl, hb2⟩
  have S := HQ.out.sk hb2 hC hc
  clear H HQ hC hb2 hc
  have HS := Hd.mk S
  clear S
  go_wp2_with fail
  refine (page_any c 2 _ HS.out.cds).mono ?_
  rintro e w4 ⟨q, hq1, hq2, rfl, hd⟩
  have HS2 := Hd.mk ((HS.out.dr hd).alloc (pgA q) 27 w4.heap.size rfl)
  clear HS hd
  go_wp2_with fail
  refine (next_any c 16 _ HS2.out.cds (by omega) (by omega)).mono ?_
  rintro e w5 ⟨s, hs, rfl, hd⟩
  obtain ⟨gp, hgp⟩ : ∃ g, g = w4.heap.size := ⟨_, rfl⟩
  rw [← hgp] at HS2 ⊢
  have S := HS2.out.dr hd
  clear HS2 hd hgp
  have HQ := Hd.mk (And.intro hq1 hq2)
  clear hq1 hq2
  obtain ⟨d3, d4⟩ := S.cellsAt gp (pgA q) 27 (by simp)
  have t1 := pgA_s q s (by omega)
  have t2 := pgA_d q s (by omega)
  have u1' : (0 : Int) ≤ (s : Int) := by omega
  have u2' : (s : Int) < 16 := by omega
  have HS := Hd.mk S
  clear S
  go_wp2_with fail
  refine (next_any c 8 _ (HS.out.alloc #[.bool (q.cell s).set, .string (q.cell s).data] 24 w5.heap.size rfl).cds (by omega) (by omega)).mono ?_
  rintro e w6 ⟨r, hr, rfl, hd⟩
  have S := (HS.out.alloc #[.bool (q.cell s).set, .string (q.cell s).data] 24 w5.heap.size rfl).dr hd
  have hpl := HS.out.lt (x := (gp, pgA q, 27)) (by simp)
  have hcl := HS.out.cds.lt
  dsimp only at hpl
  obtain ⟨gl, hgl⟩ : ∃ g, g = w5.heap.size := ⟨_, rfl⟩
  rw [← hgl] at S hpl hcl ⊢
  clear HS hd hgl d3 d4 t1 t2 u1' u2'
  have HS := Hd.mk S
  clear S
  go_wp2_with fail

  obtain ⟨i0, hi, hz0, hz1, hz2⟩ := info_parts info29r
  have HI := Hd.mk (And.intro hi (And.intro hz0 (And.intro hz1 hz2)))
  clear hi hz0 hz1 hz2
  go_loopw [8, 10] (fun v i wr => ∃ (j t : Nat) (f : Nat → Cl), j + t = r + 2 ∧ i = .int .i64 (t : Int) ∧ Hd (f 0 = q.cell s ∧ ∀ k, clOk (f k) = true) ∧ Hd (wr.ownsRow (gl + 1) 29 6 v j (flat s f j)) ∧ Hd (Sk c w.heap.size w [(gl, #[.bool (f j).set, .string (f j).data], 24), (gp, pgA q, 27)] wr)) (fun _ i _ => (intOf i).toNat)
  case atStart => exact ⟨0, r + 2, fun _ => q.cell s, by omega, by go_num, ⟨rfl, fun _ => HQ.out.2 s⟩, ⟨World.ownsRow_nil _ _ _ _⟩, HS⟩
  case round =>
    clear HS
    obtain ⟨j, t, f, hjt, rfl, HF, HO, HS⟩ := hrel
    by_cases h0 : t = 0
    case pos =>
      have e0 : ¬ (0 : Int) < t := by omega
      obtain rfl : j = r + 2 := by omega
      clear h0
      obtain ⟨g, cg, cur, rfl, hg1, hg2, hg3, hg4, hC⟩ := own_cur HO.out (by omega)
      have HC := Hd.mk hC
      have S := HS.out.cons hg4 (by omega) (by have := HS.out.hc; omega)
      unfold maxLen at hg3
      clear HO HS hg4 hC
      have hgp := HQ.out.1
      obtain ⟨a1, a2, a3, a4⟩ := S.at gp (pgA q) 27 (by simp)
      have HS := Hd.mk (S.alloc (pgA q) 27 wr.heap.size rfl)
      have hge := S.cds.lt
      have hge3 : g < wr.heap.size ∧ gl < wr.heap.size ∧ gp < wr.heap.size := ⟨S.lt (x := (g, cur, 29)) (by simp), S.lt (x := (gl, #[.bool (f (r + 2)).set, .string (f (r + 2)).data], 24)) (by simp), S.lt (x := (gp, pgA q, 27)) (by simp)⟩
      obtain ⟨ge, hge2⟩ : ∃ g, g = wr.heap.size := ⟨_, rfl⟩
      clear S hgp
      rw [← hge2] at HS hge hge3
      obtain ⟨wo, rfl⟩ : ∃ W : World, W = wr := ⟨_, rfl⟩
      go_wp2_with fail
      rw [← hge2]
      clear a1 a2 a3 a4 hge2
      go_loopw [61] (fun v wr => ∃ k : Nat, k ≤ r + 2 ∧ v = .int .i64 (k : Int) ∧ Hd (Sk c w.heap.size w [(ge, pgA (q.upd s (f (k))), 27), (g, cur, 29), (gl, #[.bool (f (r + 2)).set, .string (f (r + 2)).data], 24), (gp, pgA q, 27)] wr)) (fun v _ => r + 2 - (intOf v).toNat)
      case atStart => exact ⟨0, by omega, rfl, by rw [HF.out.1, Pg.upd_self]; exact HS⟩
      case round =>
        clear HS
        obtain ⟨k, hk, rfl, HS⟩ := hrel
        by_cases hlt : k < r + 2
        · have h0 := (HC.out _ (HS.out.mem (g, cur, 29) (by simp)).2).ld (k := k) (o := k * 6) hlt (by omega)
          have q1 : (0 : Int) ≤ k := by omega
          have q2 : (k : Int) < r + 2 := by omega
          have HA := Hd.mk (apply_lnk q s k f HQ.out.1 (by omega) HF.out.2)
          obtain ⟨a1, a2, a3, a4⟩ := HS.out.at ge (pgA (q.upd s (f k))) 27 (by simp)
          go_wp2_with fail
          refine (apply27 (q.upd s (f k)) ⟨2, (s : Int), f k, f (k + 1)⟩ _).mono ?_
          rintro e w9 ⟨rfl, hb⟩
          rw [HA.out]
          have S := (HS.out.alloc #[.int .i64 2, .int .i64 (s : Int), .bool (f k).set, .string (f k).data, .bool (f (k + 1)).set, .string (f (k + 1)).data] 29 wr.heap.size rfl).step hb
          clear hb HS HA h0 a1 a2 a3 a4
          have S := S.alloc (pgA (q.upd s (f (k + 1)))) 27 w9.heap.size rfl
          obtain ⟨a1, a2, a3, a4⟩ := S.at w9.heap.size (pgA (q.upd s (f (k + 1)))) 27 (by simp)
          obtain ⟨b1, b2, b3, b4⟩ := S.at ge (pgA (q.upd s (f k))) 27 (by simp)
          have HS := Hd.mk S
          clear S
          go_wp2_with fail
          go_roundw
          case rel =>
            have S := HS.out.setRow ge (pgA (q.upd s (f k))) (pgA (q.upd s (f (k + 1)))) 27 (by simp) hge (l' := [(g, cur, 29), (gl, #[.bool (f (r + 2)).set, .string (f (r + 2)).data], 24), (gp, pgA q, 27)]) (fun y hy => ⟨List.mem_cons_of_mem _ (List.mem_cons_of_mem _ (List.mem_cons_of_mem _ hy)), by simp at hy; rcases hy with rfl | rfl | rfl <;> dsimp only <;> omega⟩)
            exact ⟨k + 1, by omega, by go_num, ⟨S⟩⟩
          case measure => simp [intOf]; omega
        · obtain rfl : k = r + 2 := by omega
          clear hlt hk
          go_upto_region 23 with (fail)
          obtain ⟨kk, hk1, hk2, hk3⟩ := cut_is m r (by omega)
          rw [hk3]
          clear hk3
          have q1 : (0 : Int) ≤ kk := by omega
          have q2 : (kk : Int) ≤ cg := by omega
          go_wp2_with fail
          refine (joined30 g 0 kk cg s f _ hk1 (by omega) (by unfold maxLen; omega) (by omega) (fun k _ => HF.out.2 k) ((HC.out _ (HS.out.mem (g, cur, 29) (by simp)).2).take kk (by omega))).mono ?_
          rintro e wa ⟨rfl, hb⟩
          simp only [Ch.v]
          have S := (HS.out.step hb).alloc #[.int .i64 2, .int .i64 (s : Int), .bool (f 0).set, .string (f 0).data, .bool (f kk).set, .string (f kk).data] 29 wa.heap.size rfl
          clear hb HS
          have HS := Hd.mk S
          clear S
          have q3 : ¬ cg = kk := by omega
          have q4 : (kk : Int) ≤ (r + 2 : Nat) := by omega
          have q5 : (kk : Int) ≤ r + 2 := by omega
          go_wp2_with fail
          refine (joined30 g (kk * 6) (r + 2 - kk) (cg - kk) s (fun i => f (kk + i)) _ (by omega) (by omega) (by unfold maxLen; omega) (by omega) (fun k _ => HF.out.2 _) ((HC.out _ (HS.out.mem (g, cur, 29) (by simp)).2).shift kk (r + 2 - kk) (by omega) (kk * 6) (by omega))).mono ?_
          rintro e wb ⟨rfl, hb⟩
          simp only [Ch.v, Nat.add_zero, show kk + (r + 2 - kk) = r + 2 from by omega]
          have S := HS.out.step hb
          obtain ⟨ga, hga⟩ : ∃ g, g = wa.heap.size := ⟨_, rfl⟩
          rw [← hga] at S ⊢
          have S := S.alloc #[.int .i64 2, .int .i64 (s : Int), .bool (f kk).set, .string (f kk).data, .bool (f (r + 2)).set, .string (f (r + 2)).data] 29 wb.heap.size rfl
          clear hb HS hga q1 q2 q3 q4 q5
          obtain ⟨a1, b1, c1, d1⟩ := S.at ga #[.int .i64 2, .int .i64 (s : Int), .bool (f 0).set, .string (f 0).data, .bool (f kk).set, .string (f kk).data] 29 (by simp)
          have HJ := Hd.mk (joinF_mk (q := s) (x := f 0) (y := f kk) (z := f (r + 2)) 2 (by omega) (by omega) (by omega) (HF.out.2 _) (HF.out.2 _) (HF.out.2 _))
          have HS := Hd.mk S
          clear S
          go_wp2_with fail
          refine (join18 ⟨2, (s : Int), f 0, f kk⟩ ⟨2, (s : Int), f kk, f (r + 2)⟩ _).mono ?_
          rintro e wd ⟨rfl, hb⟩
          rw [HJ.out]
          simp only [Ch.v]
          have S := HS.out.step hb
          obtain ⟨gb, hgb⟩ : ∃ g, g = wb.heap.size := ⟨_, rfl⟩
          rw [← hgb] at S ⊢
          have S := S.alloc #[.int .i64 2, .int .i64 (s : Int), .bool (f 0).set, .string (f 0).data, .bool (f (r + 2)).set, .string (f (r + 2)).data] 29 wd.heap.size rfl
          clear hb HS hgb HJ a1 b1 c1 d1
          have HS := Hd.mk S
          clear S
          go_wp2_with fail
          refine (joined30 g 0 (r + 2) cg s f _ (by omega) (by omega) (by unfold maxLen; omega) (by omega) (fun k _ => HF.out.2 k) (HC.out _ (HS.out.mem (g, cur, 29) (by simp)).2)).mono ?_
          rintro e we ⟨rfl, hb⟩
          simp only [Ch.v]
          have S := HS.out.step hb
          obtain ⟨gj, hgj⟩ : ∃ g, g = wd.heap.size := ⟨_, rfl⟩
          rw [← hgj] at S ⊢
          have S := S.alloc #[.int .i64 2, .int .i64 (s : Int), .bool (f 0).set, .string (f 0).data, .bool (f (r + 2)).set, .string (f (r + 2)).data] 29 we.heap.size rfl
          clear hb HS hgj
          obtain ⟨a1, b1, c1, d1⟩ := S.at gp (pgA q) 27 (by simp)
          obtain ⟨a2, b2, c2, d2⟩ := S.at gj #[.int .i64 2, .int .i64 (s : Int), .bool (f 0).set, .string (f 0).data, .bool (f (r + 2)).set, .string (f (r + 2)).data] 29 (by simp)
          have HA := Hd.mk (apply_all q s (r + 2) f HQ.out.1 (by omega) HF.out.1 HF.out.2)
          have HS := Hd.mk S
          clear S
          go_wp2_with fail
          refine (apply27 q ⟨2, (s : Int), f 0, f (r + 2)⟩ _).mono ?_
          rintro e wf ⟨rfl, hb⟩
          rw [HA.out]
          have S := HS.out.step hb
          obtain ⟨gk, hgk⟩ : ∃ g, g = we.heap.size := ⟨_, rfl⟩
          rw [← hgk] at S ⊢
          have S := S.alloc (pgA (q.upd s (f (r + 2)))) 27 wf.heap.size rfl
          clear hb HS hgk HA a1 b1 c1 d1 a2 b2 c2 d2
          obtain ⟨a1, b1, c1, d1⟩ := S.at gj #[.int .i64 2, .int .i64 (s : Int), .bool (f 0).set, .string (f 0).data, .bool (f (r + 2)).set, .string (f (r + 2)).data] 29 (by simp)
          obtain ⟨a2, b2, c2, d2⟩ := S.at gk #[.int .i64 2, .int .i64 (s : Int), .bool (f 0).set, .string (f 0).data, .bool (f (r + 2)).set, .string (f (r + 2)).data] 29 (by simp)
          obtain ⟨a3, b3, c3, d3⟩ := S.at ge (pgA (q.upd s (f (r + 2)))) 27 (by simp)
          have e1 := pgEq_refl (q.upd s (f (r + 2)))
          have HO := Hd.mk (chOk_mk (q := s) (x := f 0) (y := f (r + 2)) 2 (by omega) (by omega) (by omega) (HF.out.2 _) (HF.out.2 _))
          have HS := Hd.mk S
          clear S
          go_wp2_with fail
          refine (valid21 ⟨2, (s : Int), f 0, f (r + 2)⟩ _).mono ?_
          rintro e wg ⟨rfl, hb⟩
          rw [HO.out]
          have S := HS.out.step hb
          clear HS hb
          go_wp2_with fail
          go_ret
          exact ⟨rfl, S.below⟩
    case neg =>
      have e0 : (0 : Int) < t := by omega
      go_wp2_with fail
      go_cut [11] (fun v W => ∃ (b : Nat) (x : Cl), v = .pointer (some ⟨b, 0, none⟩) ∧ clOk x = true ∧ gl < b ∧ Hd (∀ k, u8.ownBlock = some k → k ≠ b) ∧ Hd (W.ownsRow (gl + 1) 29 6 u8 j (flat s f j)) ∧ Hd (Sk c w.heap.size w [(b, #[.int .i64 2, .int .i64 (s : Int), .bool (f j).set, .string (f j).data, .bool (x).set, .string (x).data], 29), (gl, #[.bool (f j).set, .string (f j).data], 24), (gp, pgA q, 27)] W))
      case first =>
        have hw : ∀ W : World, Sk c w.heap.size w [(gl, #[.bool (f j).set, .string (f j).data], 24), (gp, pgA q, 27)] W → Hd (Sk c w.heap.size w [(gl, #[.bool (f j).set, .string (f j).data], 24), (gp, pgA q, 27)] W) ∧ (∀ o, W.cell? ⟨gl, o, none⟩ = (#[.bool (f j).set, .string (f j).data] : Array Value)[o]?) :=
          fun W hW => ⟨⟨hW⟩, (hW.cellsAt gl #[.bool (f j).set, .string (f j).data] 24 (by simp)).1⟩
        have HW := Hd.mk hw
        clear hw
        go_region_held3 (fun W => Hd (Sk c w.heap.size w [(gl, #[.bool (f j).set, .string (f j).data], 24), (gp, pgA q, 27)] W) ∧ (∀ o, W.cell? ⟨gl, o, none⟩ = (#[.bool (f j).set, .string (f j).data] : Array Value)[o]?))
          (first | exact HW.out _ (HS.out.dr (by first | exact Dr.drew c _ | exact (Dr.drew c _).trans hd7 | exact ((Dr.drew c _).trans hd7).trans (Dr.alloc c _ _) | exact (Dr.drew c _).trans (Dr.alloc c _ _) | exact ((Dr.drew c _).trans (Dr.alloc c _ _)).trans hd7)) | exact HW.out _ (sk_pend' HS.out hd7 _))
          (first | (go_at_call 29; refine (cell_any c _ ?_).mono ?_; exact (HS.out.dr (Dr.drew c _)).cds; rintro e w7 ⟨x, hx, rfl, hd7⟩; simp only [clV]) | (go_at_call 29; refine (cell_any c _ ?_).mono ?_; exact (HS.out.dr ((Dr.drew c _).trans (Dr.alloc c _ _))).cds; rintro e w7 ⟨x, hx, rfl, hd7⟩; have P7 := pendD hd7 HS.out.cds; have P8 := (blk P7).1; have P9 := (blk P7).2.1; replace P7 := Hd.mk P7; simp only [clV]))
        all_goals
          go_wp2_with fail
          go_meet
          case rel => first
            | exact ⟨_, x, rfl, hx, lt_of_drew HS.out hd7, ⟨fun k hk => by have h1 := (HO.out.lt k hk).2; have h2 := hd7.size; simp only [World.size_drew] at h2; omega⟩, ⟨(own_dr HO.out ((Dr.drew c _).trans hd7) (by have := HS.out.cds.lt; omega)).alloc _⟩, ⟨((HS.out.dr (Dr.drew c _)).dr hd7).alloc _ 29 _ rfl⟩⟩
            | exact ⟨_, x, rfl, hx, HS.out.lt (x := (gl, #[.bool (f j).set, .string (f j).data], 24)) (List.mem_cons_self ..), ⟨fun k hk => Nat.ne_of_lt (HO.out.lt k hk).2⟩, ⟨own_pend HO.out hd7 (by omega) _⟩, ⟨sk_pend HS.out hd7 _⟩⟩
      case rest =>
        clear HS
        obtain ⟨b, x, rfl, hx, hb, HN, HO2, HS⟩ := hcut
        obtain ⟨wd, rfl⟩ : ∃ W : World, W = wc := ⟨_, rfl⟩
        have hw : ∀ W : World, W.heap[b]? = some (.cells #[.int .i64 2, .int .i64 (s : Int), .bool (f j).set, .string (f j).data, .bool (x).set, .string (x).data] 29 (0, 0)) → Hd (W.heap[b]? = some (.cells #[.int .i64 2, .int .i64 (s : Int), .bool (f j).set, .string (f j).data, .bool (x).set, .string (x).data] 29 (0, 0))) ∧ rowAt W b = #[.int .i64 2, .int .i64 (s : Int), .bool (f j).set, .string (f j).data, .bool (x).set, .string (x).data] ∧ (∀ o, W.cell? ⟨b, o, none⟩ = (#[.int .i64 2, .int .i64 (s : Int), .bool (f j).set, .string (f j).data, .bool (x).set, .string (x).data] : Array Value)[o]?) :=
          fun W hW => ⟨⟨hW⟩, (blk hW).1, (blk hW).2.2.1⟩
        have HW := Hd.mk hw
        have Hb := Hd.mk (HS.out.mem (b, #[.int .i64 2, .int .i64 (s : Int), .bool (f j).set, .string (f j).data, .bool (x).set, .string (x).data], 29) (by simp)).2
        have Hbl := Hd.mk (HS.out.lt (x := (b, #[.int .i64 2, .int .i64 (s : Int), .bool (f j).set, .string (f j).data, .bool (x).set, .string (x).data], 29)) (by simp))
        have Hgb := Hd.mk (HS.out.lt (x := (gl, #[.bool (f j).set, .string (f j).data], 24)) (by simp))
        have Hgh := Hd.mk (HS.out.mem (gl, #[.bool (f j).set, .string (f j).data], 24) (by simp)).2
        have fr1 := (HS.out.cellsAt gl #[.bool (f j).set, .string (f j).data] 24 (by simp)).2
        clear hw
        go_wp2_with fail
        go_region_held3 (fun W => Hd (W.heap[b]? = some (.cells #[.int .i64 2, .int .i64 (s : Int), .bool (f j).set, .string (f j).data, .bool (x).set, .string (x).data] 29 (0, 0))) ∧ rowAt W b = #[.int .i64 2, .int .i64 (s : Int), .bool (f j).set, .string (f j).data, .bool (x).set, .string (x).data] ∧ (∀ o, W.cell? ⟨b, o, none⟩ = (#[.int .i64 2, .int .i64 (s : Int), .bool (f j).set, .string (f j).data, .bool (x).set, .string (x).data] : Array Value)[o]?))
          (first | exact HW.out _ Hb.out | exact HW.out _ (heap_alloc_drew Hb.out Hbl.out) | exact HW.out _ HP8.out | exact HW.out _ ((Below.heap_setCell _ _ _ _ (Nat.ne_of_gt hb)).trans HP8.out) | exact HW.out _ ((Below.heap_setCell _ _ _ _ (Nat.ne_of_gt hb)).trans ((Below.heap_setCell _ _ _ _ (Nat.ne_of_gt hb)).trans HP8.out)))
          ((refine step_append_lies _ (by rfl) _ _ 50 (by rfl) (gl + 1) 29 i0 (.agg #[.int .i64 0, .int .i64 0, .bool false, .string ⟨#[]⟩, .bool false, .string ⟨#[]⟩]) 6 64 Try.underlying50 HI.out.1 HI.out.2.1 HI.out.2.2.1 HI.out.2.2.2 rfl (by decide) u8 j (flat s f j) (by rfl) (own_dr HO2.out ((Dr.drew c _).trans (Dr.alloc c _ _)) (by omega)) ⟨wd.heap.size, 0, none⟩ 1 1 (ch6 ⟨2, (s : Int), f j, x⟩) (by rfl) (by rfl) (World.news_of_block (heap_alloc_new wd _)) (by simp [ch6, Value.oneCell']) (by decide) (by unfold maxLen; omega) (by omega) (Nat.le_trans Hgb.out (by simp)) _ rfl ?_; intro g cap' w8 hown hgrow hat hlt; have HP8 := Hd.mk ((hgrow.block b (Nat.lt_of_lt_of_le Hbl.out (by simp)) (fun e => HN.out b e.symm rfl)).trans (heap_alloc_drew Hb.out Hbl.out)); obtain ⟨_, _, g8, g9, _⟩ := blk ((hgrow.block gl (Nat.lt_of_lt_of_le Hgb.out (by simp)) (fun e => Nat.lt_irrefl _ (HO2.out.lt gl e.symm).1)).trans (heap_alloc_drew Hgh.out Hgb.out))))
        go_wp2_with fail
        go_roundw
        case rel =>
          exact ⟨j + 1, t - 1, grow f j x, by omega, by go_num, ⟨(grow_le (Nat.zero_le _)).trans HF.out.1, grow_ok HF.out.2 hx⟩, ⟨round_own hown rfl _ _⟩, ⟨round_sk (s := s) HS.out ((Dr.drew c _).trans (Dr.alloc c _ _)) hgrow (fun k hk => (HO2.out.lt k hk).1) HN.out hpl hcl⟩⟩
        case measure => simp [intOf]; omega
end Go.Proofs.Ytiebdcejlkeoiaa
