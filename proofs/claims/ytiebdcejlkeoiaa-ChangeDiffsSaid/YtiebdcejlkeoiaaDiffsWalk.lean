/- The walk of the law ChangeDiffs: it returns true and leaves old memory as it was. -/
import Derived.Test.YtiebdcejlkeoiaaDiffLaw
import Derived.Test.YtiebdcejlkeoiaaPack2
import Derived.Test.YtiebdcejlkeoiaaApply
import Derived.Deep.RegionHeld3
import Derived.Deep.DeepCutAuto
namespace Go.Proofs.Ytiebdcejlkeoiaa
open Go.RowKit
set_option linter.unusedSimpArgs false
set_option linter.unusedVariables false

theorem own_rcur {w : World} {base : Nat} {v : Value} {L : List Ch} (h : w.ownsRow base 29 6 v L.length (flatL L)) (hL : 0 < L.length) :
    ∃ (g cap : Nat) (cur : Array Value), v = .slice (some ⟨g, 0, none⟩) L.length cap ∧ base ≤ g ∧ w.heap[g]? = some (.cells cur 29 (0, 0)) ∧ ∀ W : World, W.heap[g]? = some (.cells cur 29 (0, 0)) → RowIn W g L := by
  have h' := h
  rcases h'.2 with ⟨_, h0⟩ | ⟨g, cap, cur, rfl, hb, hg, h1, h2, h3, h4⟩
  · omega
  · refine ⟨g, cap, cur, rfl, hb, hg, fun W hW => ?_⟩
    have hc := own_row h
    refine ⟨(Array.getElem?_eq_some_iff.1 hW).1, fun k j x hk hj => ?_⟩
    rw [World.cell?_of_block (w := w) (hW.trans hg.symm)]
    exact hc.2 k j x hk hj
theorem diffF_good {x y : Pg} (h1 : x.id = 2) (h2 : ∀ i, clOk (x.cell i) = true) (h3 : y.id = 2) (h4 : ∀ i, clOk (y.cell i) = true) : diffF x y = (dl x y 16, 0) := by
  unfold diffF
  rw [if_neg (by simp [h1, h3]), if_neg (by simp [h1, pagedB]), if_neg]
  rw [(okB_of x).2 (fun i _ => h2 i), (okB_of y).2 (fun i _ => h4 i)]
  simp

theorem diffF_len (p q : Pg) : (diffF p q).1.length ≤ 16 := by
  have := dl_len p q 16
  unfold diffF
  split
  · simp
  · split
    · simp
    · split
      · simp
      · exact this

theorem apply27_way {x y P : Pg} {s : Nat} (hx : x.id = 2 ∧ (∀ i, clOk (x.cell i) = true) ∧ y.id = 2 ∧ ∀ i, clOk (y.cell i) = true) (hP : Way x y P) (hs : s < 16) (hc : clEq (P.cell s) (y.cell s) = false) (w : World) :
    Calls Try.prog 27 #[.agg (pgA P), .agg #[.int .i64 x.id, .int .i64 (s : Int), .bool (x.cell s).set, .string (x.cell s).data, .bool (y.cell s).set, .string (y.cell s).data]] w
      fun e w' => e = .returned (.tuple #[.agg (pgA (P.upd s (y.cell s))), .int .i64 0]) ∧ Below w.heap.size w w' := by
  have h := apply27 P ⟨x.id, (s : Int), x.cell s, y.cell s⟩ w
  have h0 := hP.old hc
  have e1 : chOk ⟨x.id, (s : Int), x.cell s, y.cell s⟩ = true := by
    simp [chOk, hx.1, pagedB, slotB, hx.2.1, hx.2.2.2]; omega
  have e : applyF P ⟨x.id, (s : Int), x.cell s, y.cell s⟩ = (P.upd s (y.cell s), 0) := by
    unfold applyF
    rw [if_neg (by rw [e1]; simp), if_neg (by simp [hP.id]), if_neg (by simp [h0, clEq_refl])]
    simp
  rw [e] at h
  exact h

set_option maxHeartbeats 8000000 in
set_option maxRecDepth 100000 in
theorem diffs_walk (a : Option Addr) (n cap : Nat) (pa pb : Pg) (w : World) (h : IsBytes w a n cap) : Calls Try.prog 6 #[.slice a n cap, .agg (pgA pa), .agg (pgA pb)] w fun e w' => e = .returned (.bool true) ∧ Below w.heap.size w w' := by
  go_enter Try.func6, Try.ntmps6
  go_wp2_with fail
  refine (awake12 _).mono ?_
  rintro e w1 ⟨rfl, hb1⟩
  have Q0 : Pre w.heap.size w [(w.heap.size + 1, pgA pb, 27), (w.heap.size, pgA pa, 27)] w1 :=
    (((Pre.nil w).alloc (pgA pa) 27 w.heap.size rfl).alloc (pgA pb) 27 (w.heap.size + 1) (by simp)).step hb1
  have H := Hd.mk (h.below' Q0.below)
  have HQ := Hd.mk Q0
  clear h hb1 Q0
  go_wp2_with fail
  refine (new_any a n cap 200 _ (by omega) (by omega) H.out).mono ?_
  rintro e w2 ⟨c, hc, hC, rfl, hb2⟩
  have S := HQ.out.sk hb2 hC hc
  clear H HQ hC hb2 hc
  have HS := Hd.mk S
  clear S
  go_wp2_with fail
  refine (page_any c 2 _ HS.out.cds).mono ?_
  rintro e w4 ⟨x, hx1, hx2, rfl, hd⟩
  have HS2 := Hd.mk (HS.out.dr hd)
  clear HS hd
  go_wp2_with fail
  refine (page_any c 2 _ HS2.out.cds).mono ?_
  rintro e w5 ⟨y, hy1, hy2, rfl, hd⟩
  have S := ((HS2.out.dr hd).alloc (pgA x) 27 w5.heap.size rfl).alloc (pgA y) 27 (w5.heap.size + 1) (by simp)
  clear HS2 hd
  have HX := Hd.mk (And.intro hx1 (And.intro hx2 (And.intro hy1 hy2)))
  clear hx1 hx2 hy1 hy2
  have HS := Hd.mk S
  clear S
  go_wp2_with fail
  obtain ⟨gx, hgx⟩ : ∃ g, g = w5.heap.size := ⟨_, rfl⟩
  rw [← hgx] at HS ⊢
  obtain ⟨w6, hw6⟩ : ∃ W : World, W = (w5.alloc (.cells (pgA x) 27)).alloc (.cells (pgA y) 27) := ⟨_, rfl⟩
  rw [← hw6] at HS ⊢
  clear hgx hw6
  have hw : ∀ W : World, Sk c w.heap.size w [(gx + 1, pgA y, 27), (gx, pgA x, 27), (w.heap.size + 1, pgA pb, 27), (w.heap.size, pgA pa, 27)] W → Hd (Sk c w.heap.size w [(gx + 1, pgA y, 27), (gx, pgA x, 27), (w.heap.size + 1, pgA pb, 27), (w.heap.size, pgA pa, 27)] W) ∧ rowAt W (gx + 1) = pgA y ∧ rowAt W gx = pgA x ∧ rowAt W (w.heap.size + 1) = pgA pb ∧ rowAt W w.heap.size = pgA pa :=
    fun W hW => ⟨⟨hW⟩, (hW.at (gx + 1) (pgA y) 27 (by simp)).1, (hW.at gx (pgA x) 27 (by simp)).1, (hW.at (w.heap.size + 1) (pgA pb) 27 (by simp)).1, (hW.at w.heap.size (pgA pa) 27 (by simp)).1⟩
  have HW := Hd.mk hw
  clear hw
  go_region_held3 (fun W => Hd (Sk c w.heap.size w [(gx + 1, pgA y, 27), (gx, pgA x, 27), (w.heap.size + 1, pgA pb, 27), (w.heap.size, pgA pa, 27)] W) ∧ rowAt W (gx + 1) = pgA y ∧ rowAt W gx = pgA x ∧ rowAt W (w.heap.size + 1) = pgA pb ∧ rowAt W w.heap.size = pgA pa)
    (exact HW.out _ (HS.out.dr (by first | exact Dr.drew c _ | exact (Dr.drew c _).trans hd7 | exact ((Dr.drew c _).trans hd7).trans hd8 | exact (((Dr.drew c _).trans hd7).trans hd8).trans (Dr.alloc c _ _))))
    (first | (go_at_call_of 26 (Value.agg (pgA y)); refine (oddPage_any c y _ ?_).mono ?_; exact (HS.out.dr (Dr.drew c _)).cds; rintro e w7 ⟨y1, rfl, hd7⟩) | (go_at_call_of 26 (Value.agg (pgA x)); refine (oddPage_any c x _ ?_).mono ?_; exact ((HS.out.dr (Dr.drew c _)).dr hd7).cds; rintro e w8 ⟨x1, rfl, hd8⟩))
  have S := ((HS.out.dr (Dr.drew c _)).dr hd7).dr hd8
  have S := S.alloc (ppsA pa pb x y x y1 x1 y) 55 w8.heap.size rfl
  clear HS HW hd7 hd8
  obtain ⟨gz, hgz⟩ : ∃ g, g = w8.heap.size := ⟨_, rfl⟩
  rw [← hgz] at S ⊢
  have HS := Hd.mk S
  clear S hgz
  go_wp2_with fail
  replace HS := Hd.mk (HS.out.sub (l' := [(gz, ppsA pa pb x y x y1 x1 y, 55), (gx + 1, pgA y, 27), (gx, pgA x, 27)]) (fun z hz => by simp at hz ⊢; rcases hz with rfl | rfl | rfl <;> simp))
  go_loopw [50] (fun v wr => ∃ k : Nat, k ≤ 4 ∧ v = .int .i64 (k : Int) ∧ Hd (Sk c w.heap.size w [(gz, ppsA pa pb x y x y1 x1 y, 55), (gx + 1, pgA y, 27), (gx, pgA x, 27)] wr)) (fun v _ => 4 - (intOf v).toNat)
  case atStart => exact ⟨0, by omega, rfl, HS⟩
  case round =>
    clear HS
    obtain ⟨k, hk, rfl, HS⟩ := hrel
    by_cases hlt : k < 4
    · obtain ⟨z3, z4⟩ := HS.out.cellsAt gz (ppsA pa pb x y x y1 x1 y) 55 (by simp)
      have hl := run_ld55 z3 hlt
      generalize pgAt2 pa pb x y x y1 x1 y k = z at hl
      obtain ⟨P, Q⟩ := z
      dsimp only at hl
      have q1 : (0 : Int) ≤ k := by omega
      have q2 : (k : Int) < 4 := by omega
      have S := HS.out.alloc (ppA P Q) 55 wr.heap.size rfl
      have p0 := run_ldP0 (S.cellsAt wr.heap.size (ppA P Q) 55 (by simp)).1
      have p1 := run_ldP1 (S.cellsAt wr.heap.size (ppA P Q) 55 (by simp)).1
      clear z3 z4 HS
      have HS := Hd.mk S
      clear S
      go_wp2_with fail
      refine (diff31 P Q _).mono ?_
      rintro e w9 ⟨v1, rfl, hown1, hb1⟩
      have S := HS.out.step hb1
      have hlen := diffF_len P Q
      clear p0 p1 HS hb1 hl
      have p0 := run_ldP0 (S.cellsAt wr.heap.size (ppA P Q) 55 (by simp)).1
      have p1 := run_ldP1 (S.cellsAt wr.heap.size (ppA P Q) 55 (by simp)).1
      obtain ⟨a1, c1, rfl, hc1, hr1⟩ := own_form hown1
      have HR1 := Hd.mk hr1
      have HS := Hd.mk S
      clear S hown1 hr1
      go_wp2_with fail
      refine (diff32 P Q _).mono ?_
      rintro e w10 ⟨v2, rfl, hown2, hb2⟩
      have S := HS.out.step hb2
      obtain ⟨a2, c2, rfl, hc2, hr2⟩ := own_form hown2
      have HR2 := Hd.mk hr2
      have HR3 := Hd.mk (fun h => (HR1.out h).elim fun g hg => Exists.intro g (And.intro hg.1 (hg.2.2.below hb2)))
      have HS := Hd.mk S
      clear S hown2 hr2 hb2 p0 p1 HR1
      generalize diffF P Q = d at *
      obtain ⟨L, code⟩ := d
      dsimp only at *
      go_wp2_with fail
      refine (same33 a1 a2 c1 c2 L _ hlen HR3.out (fun h => (HR2.out h).elim fun g hg => ⟨g, hg.1, hg.2.2⟩)).mono ?_
      rintro e w11 ⟨rfl, hb⟩
      have HS := Hd.mk (HS.out.step hb)
      clear hb
      go_wp2_with fail
      go_roundw
      case rel => exact ⟨k + 1, by omega, by go_num, ⟨HS.out.sub (fun z hz => List.mem_cons_of_mem _ hz)⟩⟩
      case measure => simp [intOf]; omega
    · obtain ⟨wl, hwl⟩ : ∃ W : World, W = wr := ⟨_, rfl⟩
      obtain ⟨a1, a2, a3, a4⟩ := HS.out.at (gx + 1) (pgA y) 27 (by simp)
      obtain ⟨b1, b2, b3, b4⟩ := HS.out.at gx (pgA x) 27 (by simp)
      clear hwl
      go_wp2_with fail
      refine (diff31 x y _).mono ?_
      rintro e w12 ⟨vL, rfl, hown, hb⟩
      rw [diffF_good HX.out.1 HX.out.2.1 HX.out.2.2.1 HX.out.2.2.2] at hown ⊢
      dsimp only at hown ⊢
      have S := HS.out.step hb
      obtain ⟨N, hN⟩ : ∃ N, N = (dl x y 16).length := ⟨_, rfl⟩
      have hN16 := dl_len x y 16
      rw [← hN] at hN16
      rcases Nat.eq_zero_or_pos N with h0 | hpos
      · obtain ⟨aL, cL, rfl, hcL, -⟩ := own_form hown
        subst h0
        rw [← hN]
        have hcl : clsEq x.cell y.cell = true := by
          simp only [clsEq, List.all_eq_true, List.mem_range]
          exact dif_zero 16 (by rw [← dl_dif]; exact hN.symm)
        have hls : (x.lsn == x.lsn) = true := by simp
        clear a1 a2 a3 a4 b1 b2 b3 b4 hown hb HS hN hN16
        obtain ⟨b1, b2, b3, b4⟩ := S.at gx (pgA x) 27 (by simp)
        have HS := Hd.mk S
        clear S
        go_wp2_with fail
        replace HS := Hd.mk (HS.out.alloc (pgA x) 27 w12.heap.size rfl)
        obtain ⟨gq, hgq2⟩ : ∃ g, g = w12.heap.size := ⟨_, rfl⟩
        rw [← hgq2] at HS ⊢
        clear hgq2 b1 b2 b3 b4
        go_loopw [19] (fun v wr => v = .int .i64 0 ∧ Hd (Sk c w.heap.size w [(gq, pgA x, 27), (gz, ppsA pa pb x y x y1 x1 y, 55), (gx + 1, pgA y, 27), (gx, pgA x, 27)] wr)) (fun _ _ => 0)
        case atStart => exact ⟨rfl, HS⟩
        case round =>
          clear HS
          obtain ⟨rfl, HS⟩ := hrel
          obtain ⟨a1, a2, a3, a4⟩ := HS.out.at gq (pgA x) 27 (by simp)
          obtain ⟨b1, b2, b3, b4⟩ := HS.out.at (gx + 1) (pgA y) 27 (by simp)
          obtain ⟨d1, d2, d3, d4⟩ := HS.out.at gx (pgA x) 27 (by simp)
          have l1 := run_ld25 wr gq x a1
          have l2 := run_ld25 wr (gx + 1) y b1
          have k1 := (HS.out.cellsAt gq (pgA x) 27 (by simp)).1
          have k2 := (HS.out.cellsAt gx (pgA x) 27 (by simp)).1
          go_wp2_with fail
          go_ret
          exact ⟨rfl, HS.out.below⟩
          
      · obtain ⟨gL, cL, cur, rfl, hg1, hg2, hR⟩ := own_rcur hown (by omega)
        have hgc := S.cds.lt
        have hlc := HS.out.cds.lt
        have hlB := HS.out.hBw
        have S := S.cons hg2 (by omega) (by omega)
        rw [← hN] at hown ⊢
        have HR := Hd.mk hR
        have HN := Hd.mk hN
        clear a1 a2 a3 a4 b1 b2 b3 b4 hown hb HS hg2 hR hN
        obtain ⟨b1, b2, b3, b4⟩ := S.at gx (pgA x) 27 (by simp)
        have HS := Hd.mk S
        clear S
        go_wp2_with fail
        have hn0 : gL < w12.heap.size ∧ gz < w12.heap.size ∧ gx + 1 < w12.heap.size := ⟨HS.out.lt (x := (gL, cur, 29)) (by simp), HS.out.lt (x := (gz, ppsA pa pb x y x y1 x1 y, 55)) (by simp), HS.out.lt (x := (gx + 1, pgA y, 27)) (by simp)⟩
        have HS := Hd.mk (HS.out.alloc (pgA x) 27 w12.heap.size rfl)
        have hgq := HS.out.cds.lt
        obtain ⟨gq, hgq2⟩ : ∃ g, g = w12.heap.size := ⟨_, rfl⟩
        rw [← hgq2] at HS hn0 ⊢
        have hcq : c < gq := by omega
        have hnq : gL < gq ∧ gz < gq ∧ gx + 1 < gq := hn0
        clear hgq hgq2 hn0 b1 b2 b3 b4 hg1 hgc hlc hlB
        go_loopw [19] (fun v wr => ∃ (i : Nat) (P : Pg), i ≤ N ∧ v = .int .i64 (i : Int) ∧ Hd (Way x y P ∧ dif P y 16 + i = N) ∧ Hd (Sk c w.heap.size w [(gq, pgA P, 27), (gL, cur, 29), (gz, ppsA pa pb x y x y1 x1 y, 55), (gx + 1, pgA y, 27), (gx, pgA x, 27)] wr)) (fun v _ => N - (intOf v).toNat)
        case atStart => exact ⟨0, x, by omega, rfl, ⟨Way.refl x y, by rw [← dl_dif, ← HN.out]; rfl⟩, HS⟩
        case round =>
          clear HS
          obtain ⟨i, P, hiN, rfl, HP, HS⟩ := hrel
          by_cases hlt : i < N
          · have q1 : (i : Int) < N := by omega
            go_wp2_with fail
            refine (next_any c (N : Int) _ HS.out.cds (by omega) (by omega)).mono ?_
            rintro e w13 ⟨at0, hat, rfl, hd⟩
            replace HS := Hd.mk (HS.out.dr hd)
            clear hd
            obtain ⟨wo, rfl⟩ : ∃ W : World, W = wr := ⟨_, rfl⟩
            go_wp2_with fail
            go_loopw [20, 21] (fun at_ v wr => ∃ m : Nat, m ≤ N ∧ v = .int .i64 (m : Int) ∧ at_ = .int .i64 (((at0 + m) % N : Nat) : Int) ∧ Hd (∀ m', m' < m → (∀ ch : Ch, (dl x y 16)[(at0 + m') % N]? = some ch → clEq (P.cell ch.slot.toNat) ch.after = true)) ∧ Hd (Sk c w.heap.size w [(gq, pgA P, 27), (gL, cur, 29), (gz, ppsA pa pb x y x y1 x1 y, 55), (gx + 1, pgA y, 27), (gx, pgA x, 27)] wr)) (fun _ v _ => N - (intOf v).toNat)
            case atStart => exact ⟨0, by omega, rfl, by rw [Nat.add_zero, Nat.mod_eq_of_lt (by omega)], ⟨fun m' h => by omega⟩, HS⟩
            case round =>
              clear HS
              obtain ⟨m, hm, rfl, rfl, HG, HS⟩ := hrel
              rcases Nat.lt_or_ge m N with hmN | hmN
              case inr =>
                exfalso
                obtain rfl : m = N := by omega
                have hall := ring_all (good := fun k => (∀ ch : Ch, (dl x y 16)[k]? = some ch → clEq (P.cell ch.slot.toNat) ch.after = true)) hpos HG.out
                have h0 := HP.out.1.done (fun k ch hk => hall k (by rw [HN.out]; exact (List.getElem?_eq_some_iff.1 hk).1) ch hk)
                have := HP.out.2
                omega
              case inl =>
                obtain ⟨kk, hkk⟩ : ∃ kk, kk = (at0 + m) % N := ⟨_, rfl⟩
                have hkN : kk < N := by rw [hkk]; exact Nat.mod_lt _ hpos
                have HK := Hd.mk hkk
                rw [← hkk]
                clear hkk
                obtain ⟨ch, hch⟩ : ∃ ch, (dl x y 16)[kk]? = some ch := ⟨_, List.getElem?_eq_getElem (by have := HN.out; omega)⟩
                obtain ⟨s, hs, rfl, hne⟩ := dl_at 16 kk ch hch
                have HCH := Hd.mk hch
                have hw : ∀ W : World, Sk c w.heap.size w [(gq, pgA P, 27), (gL, cur, 29), (gz, ppsA pa pb x y x y1 x1 y, 55), (gx + 1, pgA y, 27), (gx, pgA x, 27)] W → Hd (Sk c w.heap.size w [(gq, pgA P, 27), (gL, cur, 29), (gz, ppsA pa pb x y x y1 x1 y, 55), (gx + 1, pgA y, 27), (gx, pgA x, 27)] W) ∧ W.cell? ⟨gL, kk * 6 + 1, none⟩ = some (.int .i64 (s : Int)) ∧ W.cell? ⟨gL, kk * 6 + 4, none⟩ = some (.bool (y.cell s).set) ∧ W.cell? ⟨gL, kk * 6 + 5, none⟩ = some (.string (y.cell s).data) ∧ (∀ o, W.cell? ⟨gq, o, none⟩ = (pgA P)[o]?) := fun W hW => by
                  have R := HR.out W (hW.mem (gL, cur, 29) (by simp)).2
                  refine ⟨⟨hW⟩, ?_, ?_, ?_, (hW.cellsAt gq (pgA P) 27 (by simp)).1⟩
                  · rw [R.2 kk 1 _ hch (by omega)]; rfl
                  · rw [R.2 kk 4 _ hch (by omega)]; rfl
                  · rw [R.2 kk 5 _ hch (by omega)]; rfl
                have HW := Hd.mk hw
                have t1 := pgA_s P s hs
                have t2 := pgA_d P s hs
                have q2 : (m : Int) < N := by omega
                have q3 : (0 : Int) ≤ kk := by omega
                have q4 : (kk : Int) < N := by omega
                have q5 : (0 : Int) ≤ s := by omega
                have q6 : (s : Int) < 16 := by omega
                clear hw hch
                go_wp2_with fail
                go_region_held3 (fun W => Hd (Sk c w.heap.size w [(gq, pgA P, 27), (gL, cur, 29), (gz, ppsA pa pb x y x y1 x1 y, 55), (gx + 1, pgA y, 27), (gx, pgA x, 27)] W) ∧ W.cell? ⟨gL, kk * 6 + 1, none⟩ = some (.int .i64 (s : Int)) ∧ W.cell? ⟨gL, kk * 6 + 4, none⟩ = some (.bool (y.cell s).set) ∧ W.cell? ⟨gL, kk * 6 + 5, none⟩ = some (.string (y.cell s).data) ∧ (∀ o, W.cell? ⟨gq, o, none⟩ = (pgA P)[o]?)) (first | exact HW.out _ HS.out | exact HW.out _ (HS.out.dr (Dr.drew c _))) (fail)
                replace HS := Hd.mk (HS.out.dr (Dr.drew c _))
                generalize hwx : wr.drew = wx at HS ⊢
                clear hwx
                cases hc : clEq (P.cell s) (y.cell s) with
                | true =>
                  have q7 : ((N : Int) == 0) = false := by simp; omega
                  have HG2 : Hd (∀ m', m' < m + 1 → (∀ ch : Ch, (dl x y 16)[(at0 + m') % N]? = some ch → clEq (P.cell ch.slot.toNat) ch.after = true)) := ⟨fun m' hm' ch hch => by
                    by_cases h : m' < m
                    · exact HG.out m' h ch hch
                    · obtain rfl : m' = m := by omega
                      rw [← HK.out, HCH.out] at hch
                      obtain rfl := Option.some.inj hch
                      simpa using hc⟩
                  have hmod : Hd (((kk : Int) + 1) % (N : Int) = (((at0 + (m + 1)) % N : Nat) : Int)) := ⟨by
                    rw [HK.out, Int.natCast_emod, Int.emod_add_emod, Int.natCast_emod]; rfl⟩
                  go_wp2_with fail
                  go_roundw
                  case rel => exact ⟨m + 1, by omega, by go_num, by rw [hmod.out], HG2, HS⟩
                  case measure => simp [intOf]; omega
                | false =>
                  have HA := Hd.mk (apply27_way HX.out HP.out.1 hs hc)
                  have hw2 : ∀ W : World, Sk c w.heap.size w [(gq, pgA P, 27), (gL, cur, 29), (gz, ppsA pa pb x y x y1 x1 y, 55), (gx + 1, pgA y, 27), (gx, pgA x, 27)] W → Hd (Sk c w.heap.size w [(gq, pgA P, 27), (gL, cur, 29), (gz, ppsA pa pb x y x y1 x1 y, 55), (gx + 1, pgA y, 27), (gx, pgA x, 27)] W) ∧ rowAt W gq = pgA P ∧ (ldv 29 ⟨gL, kk * 6, none⟩).run Try.prog W = .ok (.agg #[.int .i64 x.id, .int .i64 (s : Int), .bool (x.cell s).set, .string (x.cell s).data, .bool (y.cell s).set, .string (y.cell s).data]) W := fun W hW => by
                    have R := HR.out W (hW.mem (gL, cur, 29) (by simp)).2
                    exact ⟨⟨hW⟩, (hW.at gq (pgA P) 27 (by simp)).1, R.ld HCH.out⟩
                  have HW2 := Hd.mk hw2
                  clear hw2 HW t1 t2 hne
                  have hcx := HS.out.cds.lt
                  have hBx := HS.out.hBw
                  have hnx : ∀ z ∈ ([(gq, pgA P, 27), (gL, cur, 29), (gz, ppsA pa pb x y x y1 x1 y, 55), (gx + 1, pgA y, 27), (gx, pgA x, 27)] : Ents), z.1 ≠ wx.heap.size := fun z hz => Nat.ne_of_lt (HS.out.lt hz)
                  replace hnx := Hd.mk hnx
                  go_wp2_with fail
                  go_region_held3 (fun W => Hd (Sk c w.heap.size w [(gq, pgA P, 27), (gL, cur, 29), (gz, ppsA pa pb x y x y1 x1 y, 55), (gx + 1, pgA y, 27), (gx, pgA x, 27)] W) ∧ rowAt W gq = pgA P ∧ (ldv 29 ⟨gL, kk * 6, none⟩).run Try.prog W = .ok (.agg #[.int .i64 x.id, .int .i64 (s : Int), .bool (x.cell s).set, .string (x.cell s).data, .bool (y.cell s).set, .string (y.cell s).data]) W) (first | exact HW2.out _ HS.out | exact HW2.out _ (HS.out.dr (Dr.drew c _)) | exact HW2.out _ (HS.out.dr (((Dr.drew c _).trans (Dr.of_below hb)).trans (Dr.alloc c _ _))) | exact HW2.out _ ((HS.out.dr (Dr.drew c _)).step hb) | exact HW2.out _ (HS.out.dr ((Dr.alloc c _ _).trans (Dr.drew c _))) | exact HW2.out _ (HS.out.dr ((Dr.drew c _).trans (Dr.alloc c _ _))) | exact HW2.out _ (HS.out.dr (((Dr.alloc c _ _).trans (Dr.drew c _)).trans (Dr.of_below hb))) | exact HW2.out _ ((HSB.out.setRow wx.heap.size (pgA zPg) _ 27 (by simp) (by omega) (fun z hz => ⟨List.mem_cons_of_mem _ hz, hnx.out z hz⟩)).sub (fun z hz => List.mem_cons_of_mem _ hz)))
                    (first | (go_at_call 27; refine (HA.out _).mono ?_; rintro e w14 ⟨rfl, hb⟩; have B := (hb.block wx.heap.size (by simp)).trans (show _ = _ from heap_alloc_new wx _); have B1 := rowAt_of B; have B2 := (blk B).2.1; have HSB := Hd.mk (((HS.out.dr ((Dr.alloc c _ _).trans (Dr.drew c _))).step hb).cons B (by omega) hBx); clear B) | (go_at_call 27; refine (HA.out _).mono ?_; rintro e w14 ⟨rfl, hb⟩))
                  · have S := ((HS.out.dr (Dr.drew c _)).step hb).alloc (pgA (P.upd s (y.cell s))) 27 w14.heap.size rfl
                    obtain ⟨b1, b2, b3, b4⟩ := S.at gq (pgA P) 27 (by simp)
                    obtain ⟨d1, d2, d3, d4⟩ := S.at w14.heap.size (pgA (P.upd s (y.cell s))) 27 (by simp)
                    have HS3 := Hd.mk (S.setRow gq (pgA P) (pgA (P.upd s (y.cell s))) 27 (by simp) hcq (l' := [(gL, cur, 29), (gz, ppsA pa pb x y x y1 x1 y, 55), (gx + 1, pgA y, 27), (gx, pgA x, 27)]) (fun z hz => ⟨List.mem_cons_of_mem _ (List.mem_cons_of_mem _ hz), by simp at hz; rcases hz with rfl | rfl | rfl | rfl <;> dsimp only <;> omega⟩))
                    clear S HS HW2 HA hnx
                    go_wp2_with fail
                    go_roundw
                    case rel => exact ⟨i + 1, P.upd s (y.cell s), by omega, by go_num, ⟨HP.out.1.upd s, by have := dif_upd 16 hs hc; have := HP.out.2; omega⟩, HS3⟩
                    case measure => simp [intOf]; omega
                  · have S := HSB.out.setRow wx.heap.size (pgA zPg) (pgA (P.upd s (y.cell s))) 27 (by simp) (by omega) (fun z hz => ⟨List.mem_cons_of_mem _ hz, hnx.out z hz⟩)
                    clear HSB B1 B2
                    obtain ⟨b1, b2, b3, b4⟩ := S.at gq (pgA P) 27 (by simp)
                    obtain ⟨d1, d2, d3, d4⟩ := S.at wx.heap.size (pgA (P.upd s (y.cell s))) 27 (by simp)
                    have HS3 := Hd.mk (S.setRow gq (pgA P) (pgA (P.upd s (y.cell s))) 27 (by simp) hcq (l' := [(gL, cur, 29), (gz, ppsA pa pb x y x y1 x1 y, 55), (gx + 1, pgA y, 27), (gx, pgA x, 27)]) (fun z hz => ⟨List.mem_cons_of_mem _ (List.mem_cons_of_mem _ hz), by simp at hz; rcases hz with rfl | rfl | rfl | rfl <;> dsimp only <;> omega⟩))
                    clear S HS HW2 HA hnx
                    go_wp2_with fail
                    go_roundw
                    case rel => exact ⟨i + 1, P.upd s (y.cell s), by omega, by go_num, ⟨HP.out.1.upd s, by have := dif_upd 16 hs hc; have := HP.out.2; omega⟩, HS3⟩
                    case measure => simp [intOf]; omega
          · obtain rfl : i = N := by omega
            have hcl : clsEq P.cell y.cell = true := by
              simp only [clsEq, List.all_eq_true, List.mem_range]
              exact dif_zero 16 (by have := HP.out.2; omega)
            have hls : (P.lsn == x.lsn) = true := by simp [HP.out.1.lsn]
            clear HP HR HN
            obtain ⟨a1, a2, a3, a4⟩ := HS.out.at gq (pgA P) 27 (by simp)
            obtain ⟨b1, b2, b3, b4⟩ := HS.out.at (gx + 1) (pgA y) 27 (by simp)
            obtain ⟨d1, d2, d3, d4⟩ := HS.out.at gx (pgA x) 27 (by simp)
            have l1 := run_ld25 wr gq P a1
            have l2 := run_ld25 wr (gx + 1) y b1
            have k1 := (HS.out.cellsAt gq (pgA P) 27 (by simp)).1
            have k2 := (HS.out.cellsAt gx (pgA x) 27 (by simp)).1
            go_wp2_with fail
            go_ret
            exact ⟨rfl, HS.out.below⟩
            
end Go.Proofs.Ytiebdcejlkeoiaa
