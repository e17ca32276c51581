/- The walk of the law ChangeExact: it returns true and leaves old memory as it was. -/
import Derived.Test.YtiebdcejlkeoiaaSt
import Derived.Test.YtiebdcejlkeoiaaPack
import Derived.Test.YtiebdcejlkeoiaaApply
import Derived.Test.YtiebdcejlkeoiaaJoin
import Derived.Deep.RegionHeld3
import Derived.Deep.DeepCutAuto
namespace Go.Proofs.Ytiebdcejlkeoiaa
open Go.RowKit
set_option linter.unusedSimpArgs false
set_option linter.unusedVariables false

@[go_sem] theorem run_loadVar29x (w : World) (g o : Nat) (h : IsCh ((rowAt w g).extract o (o + 6))) : (ldv 29 ⟨g, o, none⟩).run Try.prog w = .ok (.agg ((rowAt w g).extract o (o + 6))) w := by
  obtain ⟨x, y, a, b, d, e, he⟩ := h
  have hr : ∀ i, w.cell? ⟨g, i, none⟩ = (rowAt w g)[i]? := by
    intro i
    unfold rowAt World.cell?
    cases w.heap[g]? with
    | none => simp
    | some o => cases o <;> simp
  have := run_ld29 (w := w) (g := g) (o := o) (x := ⟨x, y, ⟨a, b⟩, ⟨d, e⟩⟩) (fun j hj => by
    rw [hr]
    have h2 : ((rowAt w g).extract o (o + 6))[j]? = (ch6 ⟨x, y, ⟨a, b⟩, ⟨d, e⟩⟩)[j]? := by rw [he]; simp [ch6]
    rw [← h2, Array.getElem?_extract]
    have hs : (o + 6) ≤ (rowAt w g).size := by
      have := congrArg Array.size he
      simp at this
      omega
    rw [if_pos (by omega)])
  rw [this, he]

set_option maxHeartbeats 8000000 in
set_option maxRecDepth 100000 in
theorem exact_walk (a : Option Addr) (n cap : Nat) (p : Pg) (xa xb : Ch) (w : World) (h : IsBytes w a n cap) : Calls Try.prog 3 #[.slice a n cap, .agg (pgA p), .agg #[.int .i64 xa.page, .int .i64 xa.slot, .bool xa.before.set, .string xa.before.data, .bool xa.after.set, .string xa.after.data], .agg #[.int .i64 xb.page, .int .i64 xb.slot, .bool xb.before.set, .string xb.before.data, .bool xb.after.set, .string xb.after.data]] w fun e w' => e = .returned (.bool true) ∧ Below w.heap.size w w' := by
  go_enter Try.func3, Try.ntmps3
  go_wp2_with fail
  refine (awake12 _).mono ?_
  rintro e w1 ⟨rfl, hb1⟩
  have Q0 : Pre w.heap.size w [(w.heap.size + 1 + 1, #[.int .i64 xb.page, .int .i64 xb.slot, .bool xb.before.set, .string xb.before.data, .bool xb.after.set, .string xb.after.data], 29), (w.heap.size + 1, #[.int .i64 xa.page, .int .i64 xa.slot, .bool xa.before.set, .string xa.before.data, .bool xa.after.set, .string xa.after.data], 29), (w.heap.size, pgA p, 27)] w1 :=
    ((((Pre.nil w).alloc (pgA p) 27 w.heap.size rfl).alloc #[.int .i64 xa.page, .int .i64 xa.slot, .bool xa.before.set, .string xa.before.data, .bool xa.after.set, .string xa.after.data] 29 (w.heap.size + 1) (by simp)).alloc #[.int .i64 xb.page, .int .i64 xb.slot, .bool xb.before.set, .string xb.before.data, .bool xb.after.set, .string xb.after.data] 29 (w.heap.size + 1 + 1) (by simp)).step hb1
  have H := Hd.mk (h.below' Q0.below)
  have HQ := Hd.mk Q0
  clear h hb1 Q0
  go_wp2_with fail
  refine (new_any a n cap 160 _ (by omega) (by omega) H.out).mono ?_
  rintro e w2 ⟨c, hc, hC, rfl, hb2⟩
  have S := HQ.out.sk hb2 hC hc
  clear H HQ hC hb2 hc
  have HS := Hd.mk S
  clear S
  go_wp2_with fail
  refine (next_any c 3 _ HS.out.cds (by omega) (by omega)).mono ?_
  rintro e w3 ⟨r0, hr0, rfl, hd⟩
  have HS3 := Hd.mk (HS.out.dr hd)
  clear HS hd
  go_wp2_with fail
  refine (page_any c (r0 : Int) _ HS3.out.cds).mono ?_
  rintro e w4 ⟨q, hq1, hq2, rfl, hd⟩
  have HS := Hd.mk ((HS3.out.dr hd).alloc (pgA q) 27 w4.heap.size rfl)
  clear HS3 hd
  go_wp2_with fail
  refine (change_any c _ HS.out.cds).mono ?_
  rintro e w5 ⟨p1, s1, u1, v1, hp1, hs1, hu1, hv1, rfl, hd⟩
  have HS5 := Hd.mk (HS.out.dr hd)
  clear HS hd
  go_wp2_with fail
  refine (change_any c _ HS5.out.cds).mono ?_
  rintro e w6 ⟨p2, s2, u2, v2, hp2, hs2, hu2, hv2, rfl, hd⟩
  have S := HS5.out.dr hd
  have hc6 := S.cds.lt
  clear HS5 hd
  obtain ⟨g10, hg10⟩ : ∃ g, g = w4.heap.size := ⟨_, rfl⟩
  rw [← hg10] at S ⊢
  have hk10 := S.lt (x := (g10, pgA q, 27)) (by simp)
  have hkw := S.lt (x := (w.heap.size + 1 + 1, #[.int .i64 xb.page, .int .i64 xb.slot, .bool xb.before.set, .string xb.before.data, .bool xb.after.set, .string xb.after.data], 29)) (by simp)
  dsimp only at hk10 hkw
  clear hg10 hq1 hq2 hp1 hu1 hv1 hp2 hs2 hu2 hv2
  obtain ⟨d3, d4⟩ := S.cellsAt g10 (pgA q) 27 (by simp)
  obtain ⟨d1, d2, d5, d6⟩ := S.at g10 (pgA q) 27 (by simp)
  have d7 := S.lt (x := (g10, pgA q, 27)) (by simp)
  have HS := Hd.mk ((S.alloc #[.int .i64 q.id, .int .i64 (s1 : Int), .bool (q.cell s1).set, .string (q.cell s1).data, .bool v1.set, .string v1.data] 29 w6.heap.size rfl).alloc #[.int .i64 (p2 : Int), .int .i64 (s2 : Int), .bool u2.set, .string u2.data, .bool v2.set, .string v2.data] 29 (w6.heap.size + 1) (by simp))
  clear S
  dsimp only at d7
  have t1 := pgA_s q s1 (by omega)
  have t2 := pgA_d q s1 (by omega)
  have u1' : (0 : Int) ≤ (s1 : Int) := by omega
  have u2' : (s1 : Int) < 16 := by omega
  go_wp2_with fail
  go_region
  clear t1 t2 d1 d2 d3 d4 d5 d6 d7 u1' u2' hs1
  go_wp2_with fail
  refine (next_any c 2 _ (HS.out.dr (Dr.drew c _)).cds (by omega) (by omega)).mono ?_
  rintro e w7 ⟨r1, hr1, rfl, hd⟩
  have S := (HS.out.dr (Dr.drew c _)).dr hd
  clear HS hd
  obtain ⟨g11, hg11⟩ : ∃ g, g = w6.heap.size := ⟨_, rfl⟩
  have hc11 : c < g11 := by omega
  rw [← hg11] at S hk10 hkw ⊢
  clear hg11 hc6
  go_upto_if 48 with (fail)
  go_cut [] (fun W => ∃ X Y : Ch, Hd (Sk c w.heap.size w [(g11 + 1, #[.int .i64 Y.page, .int .i64 Y.slot, .bool Y.before.set, .string Y.before.data, .bool Y.after.set, .string Y.after.data], 29), (g11, #[.int .i64 X.page, .int .i64 X.slot, .bool X.before.set, .string X.before.data, .bool X.after.set, .string X.after.data], 29), (g10, pgA q, 27), (w.heap.size + 1 + 1, #[.int .i64 xb.page, .int .i64 xb.slot, .bool xb.before.set, .string xb.before.data, .bool xb.after.set, .string xb.after.data], 29), (w.heap.size + 1, #[.int .i64 xa.page, .int .i64 xa.slot, .bool xa.before.set, .string xa.before.data, .bool xa.after.set, .string xa.after.data], 29), (w.heap.size, pgA p, 27)] W))
  case first =>
    obtain ⟨d1, d2⟩ := S.cellsAt g11 #[.int .i64 q.id, .int .i64 (s1 : Int), .bool (q.cell s1).set, .string (q.cell s1).data, .bool v1.set, .string v1.data] 29 (by simp)
    obtain ⟨d3, d4⟩ := S.cellsAt (g11 + 1) #[.int .i64 (p2 : Int), .int .i64 (s2 : Int), .bool u2.set, .string u2.data, .bool v2.set, .string v2.data] 29 (by simp)
    have HS := Hd.mk S
    clear S
    by_cases h0 : r1 = 0
    · have e0 : ((r1 : Int) == 0) = true := by simp [h0]
      clear h0
      go_wp2_with fail
      go_region
      have S1 := HS.out.dr (Dr.drew c _)
      have S2 := S1.setCell (g11 + 1) #[.int .i64 (p2 : Int), .int .i64 (s2 : Int), .bool u2.set, .string u2.data, .bool v2.set, .string v2.data] 29 (by simp) (by omega) 0 (.int .i64 q.id) (l' := [(g11, #[.int .i64 q.id, .int .i64 (s1 : Int), .bool (q.cell s1).set, .string (q.cell s1).data, .bool v1.set, .string v1.data], 29), (g10, pgA q, 27), (w.heap.size + 1 + 1, #[.int .i64 xb.page, .int .i64 xb.slot, .bool xb.before.set, .string xb.before.data, .bool xb.after.set, .string xb.after.data], 29), (w.heap.size + 1, #[.int .i64 xa.page, .int .i64 xa.slot, .bool xa.before.set, .string xa.before.data, .bool xa.after.set, .string xa.after.data], 29), (w.heap.size, pgA p, 27)]) (by simp; omega)
      have S3 := S2.setCell (g11 + 1) _ 29 (List.mem_cons_self ..) (by omega) 1 (.int .i64 (s1 : Int)) (l' := [(g11, #[.int .i64 q.id, .int .i64 (s1 : Int), .bool (q.cell s1).set, .string (q.cell s1).data, .bool v1.set, .string v1.data], 29), (g10, pgA q, 27), (w.heap.size + 1 + 1, #[.int .i64 xb.page, .int .i64 xb.slot, .bool xb.before.set, .string xb.before.data, .bool xb.after.set, .string xb.after.data], 29), (w.heap.size + 1, #[.int .i64 xa.page, .int .i64 xa.slot, .bool xa.before.set, .string xa.before.data, .bool xa.after.set, .string xa.after.data], 29), (w.heap.size, pgA p, 27)]) (by simp; omega)
      have S4 := S3.setCell (g11 + 1) _ 29 (List.mem_cons_self ..) (by omega) 2 (.bool v1.set) (l' := [(g11, #[.int .i64 q.id, .int .i64 (s1 : Int), .bool (q.cell s1).set, .string (q.cell s1).data, .bool v1.set, .string v1.data], 29), (g10, pgA q, 27), (w.heap.size + 1 + 1, #[.int .i64 xb.page, .int .i64 xb.slot, .bool xb.before.set, .string xb.before.data, .bool xb.after.set, .string xb.after.data], 29), (w.heap.size + 1, #[.int .i64 xa.page, .int .i64 xa.slot, .bool xa.before.set, .string xa.before.data, .bool xa.after.set, .string xa.after.data], 29), (w.heap.size, pgA p, 27)]) (by simp; omega)
      have S5 := S4.setCell (g11 + 1) _ 29 (List.mem_cons_self ..) (by omega) 3 (.string v1.data) (l' := [(g11, #[.int .i64 q.id, .int .i64 (s1 : Int), .bool (q.cell s1).set, .string (q.cell s1).data, .bool v1.set, .string v1.data], 29), (g10, pgA q, 27), (w.heap.size + 1 + 1, #[.int .i64 xb.page, .int .i64 xb.slot, .bool xb.before.set, .string xb.before.data, .bool xb.after.set, .string xb.after.data], 29), (w.heap.size + 1, #[.int .i64 xa.page, .int .i64 xa.slot, .bool xa.before.set, .string xa.before.data, .bool xa.after.set, .string xa.after.data], 29), (w.heap.size, pgA p, 27)]) (by simp; omega)
      go_wp2_with fail
      go_meet
      case rel =>
        exact ⟨⟨q.id, (s1 : Int), q.cell s1, v1⟩, ⟨q.id, (s1 : Int), v1, v2⟩, ⟨S5⟩⟩
    · have e0 : ((r1 : Int) == 0) = false := by simp; omega
      clear h0
      go_wp2_with fail
      go_meet
      case rel =>
        refine ⟨⟨q.id, (s1 : Int), q.cell s1, v1⟩, ⟨(p2 : Int), (s2 : Int), u2, v2⟩, ⟨?_⟩⟩
        exact HS.out
  case rest =>
    clear S
    obtain ⟨X, Y, HS⟩ := hcut
    have hw : ∀ W : World, Sk c w.heap.size w [(g11 + 1, #[.int .i64 Y.page, .int .i64 Y.slot, .bool Y.before.set, .string Y.before.data, .bool Y.after.set, .string Y.after.data], 29), (g11, #[.int .i64 X.page, .int .i64 X.slot, .bool X.before.set, .string X.before.data, .bool X.after.set, .string X.after.data], 29), (g10, pgA q, 27), (w.heap.size + 1 + 1, #[.int .i64 xb.page, .int .i64 xb.slot, .bool xb.before.set, .string xb.before.data, .bool xb.after.set, .string xb.after.data], 29), (w.heap.size + 1, #[.int .i64 xa.page, .int .i64 xa.slot, .bool xa.before.set, .string xa.before.data, .bool xa.after.set, .string xa.after.data], 29), (w.heap.size, pgA p, 27)] W → Hd (Sk c w.heap.size w [(g11 + 1, #[.int .i64 Y.page, .int .i64 Y.slot, .bool Y.before.set, .string Y.before.data, .bool Y.after.set, .string Y.after.data], 29), (g11, #[.int .i64 X.page, .int .i64 X.slot, .bool X.before.set, .string X.before.data, .bool X.after.set, .string X.after.data], 29), (g10, pgA q, 27), (w.heap.size + 1 + 1, #[.int .i64 xb.page, .int .i64 xb.slot, .bool xb.before.set, .string xb.before.data, .bool xb.after.set, .string xb.after.data], 29), (w.heap.size + 1, #[.int .i64 xa.page, .int .i64 xa.slot, .bool xa.before.set, .string xa.before.data, .bool xa.after.set, .string xa.after.data], 29), (w.heap.size, pgA p, 27)] W) ∧ rowAt W (w.heap.size + 1) = #[.int .i64 xa.page, .int .i64 xa.slot, .bool xa.before.set, .string xa.before.data, .bool xa.after.set, .string xa.after.data] ∧ rowAt W (w.heap.size + 1 + 1) = #[.int .i64 xb.page, .int .i64 xb.slot, .bool xb.before.set, .string xb.before.data, .bool xb.after.set, .string xb.after.data] ∧ rowAt W (g11) = #[.int .i64 X.page, .int .i64 X.slot, .bool X.before.set, .string X.before.data, .bool X.after.set, .string X.after.data] ∧ rowAt W (g11 + 1) = #[.int .i64 Y.page, .int .i64 Y.slot, .bool Y.before.set, .string Y.before.data, .bool Y.after.set, .string Y.after.data] :=
      fun W hW => ⟨⟨hW⟩, (hW.at (w.heap.size + 1) (#[.int .i64 xa.page, .int .i64 xa.slot, .bool xa.before.set, .string xa.before.data, .bool xa.after.set, .string xa.after.data]) 29 (by simp)).1, (hW.at (w.heap.size + 1 + 1) (#[.int .i64 xb.page, .int .i64 xb.slot, .bool xb.before.set, .string xb.before.data, .bool xb.after.set, .string xb.after.data]) 29 (by simp)).1, (hW.at (g11) (#[.int .i64 X.page, .int .i64 X.slot, .bool X.before.set, .string X.before.data, .bool X.after.set, .string X.after.data]) 29 (by simp)).1, (hW.at (g11 + 1) (#[.int .i64 Y.page, .int .i64 Y.slot, .bool Y.before.set, .string Y.before.data, .bool Y.after.set, .string Y.after.data]) 29 (by simp)).1⟩
    have HW := Hd.mk hw
    clear hw
    go_wp2_with fail
    go_region_held3 (fun W => Hd (Sk c w.heap.size w [(g11 + 1, #[.int .i64 Y.page, .int .i64 Y.slot, .bool Y.before.set, .string Y.before.data, .bool Y.after.set, .string Y.after.data], 29), (g11, #[.int .i64 X.page, .int .i64 X.slot, .bool X.before.set, .string X.before.data, .bool X.after.set, .string X.after.data], 29), (g10, pgA q, 27), (w.heap.size + 1 + 1, #[.int .i64 xb.page, .int .i64 xb.slot, .bool xb.before.set, .string xb.before.data, .bool xb.after.set, .string xb.after.data], 29), (w.heap.size + 1, #[.int .i64 xa.page, .int .i64 xa.slot, .bool xa.before.set, .string xa.before.data, .bool xa.after.set, .string xa.after.data], 29), (w.heap.size, pgA p, 27)] W) ∧ rowAt W (w.heap.size + 1) = #[.int .i64 xa.page, .int .i64 xa.slot, .bool xa.before.set, .string xa.before.data, .bool xa.after.set, .string xa.after.data] ∧ rowAt W (w.heap.size + 1 + 1) = #[.int .i64 xb.page, .int .i64 xb.slot, .bool xb.before.set, .string xb.before.data, .bool xb.after.set, .string xb.after.data] ∧ rowAt W (g11) = #[.int .i64 X.page, .int .i64 X.slot, .bool X.before.set, .string X.before.data, .bool X.after.set, .string X.after.data] ∧ rowAt W (g11 + 1) = #[.int .i64 Y.page, .int .i64 Y.slot, .bool Y.before.set, .string Y.before.data, .bool Y.after.set, .string Y.after.data])
      (exact HW.out _ (HS.out.dr (by first | exact Dr.drew c _ | exact (Dr.drew c _).trans hd9 | exact ((Dr.drew c _).trans hd9).trans hd10 | exact (((Dr.drew c _).trans hd9).trans hd10).trans (Dr.alloc c _ _))))
      (first | (go_at_call_of 17 (Value.agg #[Value.int IntKind.i64 X.page, Value.int IntKind.i64 X.slot, Value.bool X.before.set, Value.string X.before.data, Value.bool X.after.set, Value.string X.after.data]); refine (oddChange_any c X _ ?_).mono ?_; exact (HS.out.dr (Dr.drew c _)).cds; rintro e W9 ⟨y1, rfl, hd9⟩) | (go_at_call_of 17 (Value.agg #[Value.int IntKind.i64 Y.page, Value.int IntKind.i64 Y.slot, Value.bool Y.before.set, Value.string Y.before.data, Value.bool Y.after.set, Value.string Y.after.data]); refine (oddChange_any c Y _ ?_).mono ?_; exact ((HS.out.dr (Dr.drew c _)).dr hd9).cds; rintro e W10 ⟨y2, rfl, hd10⟩))
    have S := ((HS.out.dr (Dr.drew c _)).dr hd9).dr hd10
    have S := S.alloc (zsA xa xb X Y y1 Y X y2) 36 W10.heap.size rfl
    clear HS HW hd9 hd10
    obtain ⟨gz, hgz⟩ : ∃ g, g = W10.heap.size := ⟨_, rfl⟩
    rw [← hgz] at S ⊢
    have HS := Hd.mk S
    clear S hgz
    go_wp2_with fail
    go_loopw [76] (fun v wr => ∃ k : Nat, k ≤ 4 ∧ v = .int .i64 (k : Int) ∧ Hd (Sk c w.heap.size w [(gz, zsA xa xb X Y y1 Y X y2, 36), (g11 + 1, #[.int .i64 Y.page, .int .i64 Y.slot, .bool Y.before.set, .string Y.before.data, .bool Y.after.set, .string Y.after.data], 29), (g11, #[.int .i64 X.page, .int .i64 X.slot, .bool X.before.set, .string X.before.data, .bool X.after.set, .string X.after.data], 29), (g10, pgA q, 27), (w.heap.size + 1 + 1, #[.int .i64 xb.page, .int .i64 xb.slot, .bool xb.before.set, .string xb.before.data, .bool xb.after.set, .string xb.after.data], 29), (w.heap.size + 1, #[.int .i64 xa.page, .int .i64 xa.slot, .bool xa.before.set, .string xa.before.data, .bool xa.after.set, .string xa.after.data], 29), (w.heap.size, pgA p, 27)] wr)) (fun v _ => 4 - (intOf v).toNat)
    case atStart => exact ⟨0, by omega, rfl, HS⟩
    case round =>
      clear HS
      obtain ⟨k, hk, rfl, HS⟩ := hrel
      by_cases hlt : k < 4
      · obtain ⟨z3, z4⟩ := HS.out.cellsAt gz (zsA xa xb X Y y1 Y X y2) 36 (by simp)
        have hl := run_ld36 z3 hlt
        generalize zAt xa xb X Y y1 Y X y2 k = z at hl
        obtain ⟨A, D⟩ := z
        simp only [ch6, List.cons_append, List.nil_append] at hl
        have q1 : (0 : Int) ≤ k := by omega
        have q2 : (k : Int) < 4 := by omega
        clear z3 z4
        go_wp2_with fail
        refine (join18 A D _).mono ?_
        rintro e w12 ⟨rfl, hb⟩
        simp only [Ch.v]
        have S := (HS.out.alloc #[.int .i64 A.page, .int .i64 A.slot, .bool A.before.set, .string A.before.data, .bool A.after.set, .string A.after.data, .int .i64 D.page, .int .i64 D.slot, .bool D.before.set, .string D.before.data, .bool D.after.set, .string D.after.data] 36 wr.heap.size rfl).step hb
        clear hb HS hl
        obtain ⟨r1, r2, r3, r4⟩ := S.at wr.heap.size #[.int .i64 A.page, .int .i64 A.slot, .bool A.before.set, .string A.before.data, .bool A.after.set, .string A.after.data, .int .i64 D.page, .int .i64 D.slot, .bool D.before.set, .string D.before.data, .bool D.after.set, .string D.after.data] 36 (by simp)
        have HS := Hd.mk S
        clear S
        go_wp2_with fail
        refine (join19 A D _).mono ?_
        rintro e w13 ⟨rfl, hb⟩
        simp only [Ch.v]
        have S := (HS.out.alloc #[.int .i64 (joinF A D).1.page, .int .i64 (joinF A D).1.slot, .bool (joinF A D).1.before.set, .string (joinF A D).1.before.data, .bool (joinF A D).1.after.set, .string (joinF A D).1.after.data] 29 w12.heap.size rfl).step hb
        clear hb HS r1 r2 r3 r4
        have HS := Hd.mk (S.alloc #[.int .i64 (joinF A D).1.page, .int .i64 (joinF A D).1.slot, .bool (joinF A D).1.before.set, .string (joinF A D).1.before.data, .bool (joinF A D).1.after.set, .string (joinF A D).1.after.data] 29 w13.heap.size rfl)
        clear S
        go_wp2_with fail
        have hw : ∀ W : World, Sk c w.heap.size w [(w13.heap.size, #[.int .i64 (joinF A D).1.page, .int .i64 (joinF A D).1.slot, .bool (joinF A D).1.before.set, .string (joinF A D).1.before.data, .bool (joinF A D).1.after.set, .string (joinF A D).1.after.data], 29), (w12.heap.size, #[.int .i64 (joinF A D).1.page, .int .i64 (joinF A D).1.slot, .bool (joinF A D).1.before.set, .string (joinF A D).1.before.data, .bool (joinF A D).1.after.set, .string (joinF A D).1.after.data], 29), (wr.heap.size, #[.int .i64 A.page, .int .i64 A.slot, .bool A.before.set, .string A.before.data, .bool A.after.set, .string A.after.data, .int .i64 D.page, .int .i64 D.slot, .bool D.before.set, .string D.before.data, .bool D.after.set, .string D.after.data], 36), (gz, zsA xa xb X Y y1 Y X y2, 36), (g11 + 1, #[.int .i64 Y.page, .int .i64 Y.slot, .bool Y.before.set, .string Y.before.data, .bool Y.after.set, .string Y.after.data], 29), (g11, #[.int .i64 X.page, .int .i64 X.slot, .bool X.before.set, .string X.before.data, .bool X.after.set, .string X.after.data], 29), (g10, pgA q, 27), (w.heap.size + 1 + 1, #[.int .i64 xb.page, .int .i64 xb.slot, .bool xb.before.set, .string xb.before.data, .bool xb.after.set, .string xb.after.data], 29), (w.heap.size + 1, #[.int .i64 xa.page, .int .i64 xa.slot, .bool xa.before.set, .string xa.before.data, .bool xa.after.set, .string xa.after.data], 29), (w.heap.size, pgA p, 27)] W → Hd (Sk c w.heap.size w [(w13.heap.size, #[.int .i64 (joinF A D).1.page, .int .i64 (joinF A D).1.slot, .bool (joinF A D).1.before.set, .string (joinF A D).1.before.data, .bool (joinF A D).1.after.set, .string (joinF A D).1.after.data], 29), (w12.heap.size, #[.int .i64 (joinF A D).1.page, .int .i64 (joinF A D).1.slot, .bool (joinF A D).1.before.set, .string (joinF A D).1.before.data, .bool (joinF A D).1.after.set, .string (joinF A D).1.after.data], 29), (wr.heap.size, #[.int .i64 A.page, .int .i64 A.slot, .bool A.before.set, .string A.before.data, .bool A.after.set, .string A.after.data, .int .i64 D.page, .int .i64 D.slot, .bool D.before.set, .string D.before.data, .bool D.after.set, .string D.after.data], 36), (gz, zsA xa xb X Y y1 Y X y2, 36), (g11 + 1, #[.int .i64 Y.page, .int .i64 Y.slot, .bool Y.before.set, .string Y.before.data, .bool Y.after.set, .string Y.after.data], 29), (g11, #[.int .i64 X.page, .int .i64 X.slot, .bool X.before.set, .string X.before.data, .bool X.after.set, .string X.after.data], 29), (g10, pgA q, 27), (w.heap.size + 1 + 1, #[.int .i64 xb.page, .int .i64 xb.slot, .bool xb.before.set, .string xb.before.data, .bool xb.after.set, .string xb.after.data], 29), (w.heap.size + 1, #[.int .i64 xa.page, .int .i64 xa.slot, .bool xa.before.set, .string xa.before.data, .bool xa.after.set, .string xa.after.data], 29), (w.heap.size, pgA p, 27)] W) ∧ rowAt W (w13.heap.size) = #[.int .i64 (joinF A D).1.page, .int .i64 (joinF A D).1.slot, .bool (joinF A D).1.before.set, .string (joinF A D).1.before.data, .bool (joinF A D).1.after.set, .string (joinF A D).1.after.data] ∧ rowAt W (w12.heap.size) = #[.int .i64 (joinF A D).1.page, .int .i64 (joinF A D).1.slot, .bool (joinF A D).1.before.set, .string (joinF A D).1.before.data, .bool (joinF A D).1.after.set, .string (joinF A D).1.after.data] ∧ rowAt W (wr.heap.size) = #[.int .i64 A.page, .int .i64 A.slot, .bool A.before.set, .string A.before.data, .bool A.after.set, .string A.after.data, .int .i64 D.page, .int .i64 D.slot, .bool D.before.set, .string D.before.data, .bool D.after.set, .string D.after.data] ∧ (∀ o, W.cell? ⟨wr.heap.size, o, none⟩ = (#[.int .i64 A.page, .int .i64 A.slot, .bool A.before.set, .string A.before.data, .bool A.after.set, .string A.after.data, .int .i64 D.page, .int .i64 D.slot, .bool D.before.set, .string D.before.data, .bool D.after.set, .string D.after.data] : Array Value)[o]?) :=
          fun W hW => ⟨⟨hW⟩, (hW.at (w13.heap.size) (#[.int .i64 (joinF A D).1.page, .int .i64 (joinF A D).1.slot, .bool (joinF A D).1.before.set, .string (joinF A D).1.before.data, .bool (joinF A D).1.after.set, .string (joinF A D).1.after.data]) 29 (by simp)).1, (hW.at (w12.heap.size) (#[.int .i64 (joinF A D).1.page, .int .i64 (joinF A D).1.slot, .bool (joinF A D).1.before.set, .string (joinF A D).1.before.data, .bool (joinF A D).1.after.set, .string (joinF A D).1.after.data]) 29 (by simp)).1, (hW.at (wr.heap.size) (#[.int .i64 A.page, .int .i64 A.slot, .bool A.before.set, .string A.before.data, .bool A.after.set, .string A.after.data, .int .i64 D.page, .int .i64 D.slot, .bool D.before.set, .string D.before.data, .bool D.after.set, .string D.after.data]) 36 (by simp)).1, (hW.cellsAt wr.heap.size #[.int .i64 A.page, .int .i64 A.slot, .bool A.before.set, .string A.before.data, .bool A.after.set, .string A.after.data, .int .i64 D.page, .int .i64 D.slot, .bool D.before.set, .string D.before.data, .bool D.after.set, .string D.after.data] 36 (by simp)).1⟩
        have HW := Hd.mk hw
        clear hw
        go_region_held3 (fun W => Hd (Sk c w.heap.size w [(w13.heap.size, #[.int .i64 (joinF A D).1.page, .int .i64 (joinF A D).1.slot, .bool (joinF A D).1.before.set, .string (joinF A D).1.before.data, .bool (joinF A D).1.after.set, .string (joinF A D).1.after.data], 29), (w12.heap.size, #[.int .i64 (joinF A D).1.page, .int .i64 (joinF A D).1.slot, .bool (joinF A D).1.before.set, .string (joinF A D).1.before.data, .bool (joinF A D).1.after.set, .string (joinF A D).1.after.data], 29), (wr.heap.size, #[.int .i64 A.page, .int .i64 A.slot, .bool A.before.set, .string A.before.data, .bool A.after.set, .string A.after.data, .int .i64 D.page, .int .i64 D.slot, .bool D.before.set, .string D.before.data, .bool D.after.set, .string D.after.data], 36), (gz, zsA xa xb X Y y1 Y X y2, 36), (g11 + 1, #[.int .i64 Y.page, .int .i64 Y.slot, .bool Y.before.set, .string Y.before.data, .bool Y.after.set, .string Y.after.data], 29), (g11, #[.int .i64 X.page, .int .i64 X.slot, .bool X.before.set, .string X.before.data, .bool X.after.set, .string X.after.data], 29), (g10, pgA q, 27), (w.heap.size + 1 + 1, #[.int .i64 xb.page, .int .i64 xb.slot, .bool xb.before.set, .string xb.before.data, .bool xb.after.set, .string xb.after.data], 29), (w.heap.size + 1, #[.int .i64 xa.page, .int .i64 xa.slot, .bool xa.before.set, .string xa.before.data, .bool xa.after.set, .string xa.after.data], 29), (w.heap.size, pgA p, 27)] W) ∧ rowAt W (w13.heap.size) = #[.int .i64 (joinF A D).1.page, .int .i64 (joinF A D).1.slot, .bool (joinF A D).1.before.set, .string (joinF A D).1.before.data, .bool (joinF A D).1.after.set, .string (joinF A D).1.after.data] ∧ rowAt W (w12.heap.size) = #[.int .i64 (joinF A D).1.page, .int .i64 (joinF A D).1.slot, .bool (joinF A D).1.before.set, .string (joinF A D).1.before.data, .bool (joinF A D).1.after.set, .string (joinF A D).1.after.data] ∧ rowAt W (wr.heap.size) = #[.int .i64 A.page, .int .i64 A.slot, .bool A.before.set, .string A.before.data, .bool A.after.set, .string A.after.data, .int .i64 D.page, .int .i64 D.slot, .bool D.before.set, .string D.before.data, .bool D.after.set, .string D.after.data] ∧ (∀ o, W.cell? ⟨wr.heap.size, o, none⟩ = (#[.int .i64 A.page, .int .i64 A.slot, .bool A.before.set, .string A.before.data, .bool A.after.set, .string A.after.data, .int .i64 D.page, .int .i64 D.slot, .bool D.before.set, .string D.before.data, .bool D.after.set, .string D.after.data] : Array Value)[o]?))
          (exact HW.out _ (HS.out.step (by repeat (first | exact Below.refl _ _ | refine Below.drew ?_ | refine Below.alloc ?_ (by first | omega | (simp <;> omega)) _ | refine Below.trans ?_ (hb25.mono (by first | omega | (simp <;> omega))) | refine Below.trans ?_ (hb24.mono (by first | omega | (simp <;> omega))) | refine Below.trans ?_ (hb23.mono (by first | omega | (simp <;> omega))) | refine Below.trans ?_ (hb22.mono (by first | omega | (simp <;> omega))) | refine Below.trans ?_ (hb21.mono (by first | omega | (simp <;> omega))) | refine Below.trans ?_ (hb20.mono (by first | omega | (simp <;> omega)))))))
          (first | (go_at_call 20; refine (valid20 A _).mono ?_; rintro e W20 ⟨rfl, hb20⟩; have sz20 := hb20.size; (try simp only [World.size_alloc, World.size_drew] at sz20); (try simp only [Ch.v, Ch.inv])) | (go_at_call 21; refine (valid21 A _).mono ?_; rintro e W21 ⟨rfl, hb21⟩; have sz21 := hb21.size; (try simp only [World.size_alloc, World.size_drew] at sz21); (try simp only [Ch.v, Ch.inv])) | (go_at_call 22; refine (inverse22 D _).mono ?_; rintro e W22 ⟨rfl, hb22⟩; have sz22 := hb22.size; (try simp only [World.size_alloc, World.size_drew] at sz22); (try simp only [Ch.v, Ch.inv])) | (go_at_call 23; refine (inverse23 D _).mono ?_; rintro e W23 ⟨rfl, hb23⟩; have sz23 := hb23.size; (try simp only [World.size_alloc, World.size_drew] at sz23); (try simp only [Ch.v, Ch.inv])) | (go_at_call 24; refine (validCell24 A.after _).mono ?_; rintro e W24 ⟨rfl, hb24⟩; have sz24 := hb24.size; (try simp only [World.size_alloc, World.size_drew] at sz24); (try simp only [Ch.v, Ch.inv])) | (go_at_call 25; refine (validCell25 A.after _).mono ?_; rintro e W25 ⟨rfl, hb25⟩; have sz25 := hb25.size; (try simp only [World.size_alloc, World.size_drew] at sz25); (try simp only [Ch.v, Ch.inv])))
        have S := HS.out.step (w' := W25) (by repeat (first | exact Below.refl _ _ | refine Below.drew ?_ | refine Below.alloc ?_ (by first | omega | (simp <;> omega)) _ | refine Below.trans ?_ (hb25.mono (by first | omega | (simp <;> omega))) | refine Below.trans ?_ (hb24.mono (by first | omega | (simp <;> omega))) | refine Below.trans ?_ (hb23.mono (by first | omega | (simp <;> omega))) | refine Below.trans ?_ (hb22.mono (by first | omega | (simp <;> omega))) | refine Below.trans ?_ (hb21.mono (by first | omega | (simp <;> omega))) | refine Below.trans ?_ (hb20.mono (by first | omega | (simp <;> omega)))))
        clear HS HW hb20 hb21 hb22 hb23 hb24 hb25 sz20 sz21 sz22 sz23 sz24 sz25
        have HS := Hd.mk S
        clear S
        go_wp2_with fail
        have hw : ∀ W : World, Sk c w.heap.size w [(w13.heap.size, #[.int .i64 (joinF A D).1.page, .int .i64 (joinF A D).1.slot, .bool (joinF A D).1.before.set, .string (joinF A D).1.before.data, .bool (joinF A D).1.after.set, .string (joinF A D).1.after.data], 29), (w12.heap.size, #[.int .i64 (joinF A D).1.page, .int .i64 (joinF A D).1.slot, .bool (joinF A D).1.before.set, .string (joinF A D).1.before.data, .bool (joinF A D).1.after.set, .string (joinF A D).1.after.data], 29), (wr.heap.size, #[.int .i64 A.page, .int .i64 A.slot, .bool A.before.set, .string A.before.data, .bool A.after.set, .string A.after.data, .int .i64 D.page, .int .i64 D.slot, .bool D.before.set, .string D.before.data, .bool D.after.set, .string D.after.data], 36), (gz, zsA xa xb X Y y1 Y X y2, 36), (g11 + 1, #[.int .i64 Y.page, .int .i64 Y.slot, .bool Y.before.set, .string Y.before.data, .bool Y.after.set, .string Y.after.data], 29), (g11, #[.int .i64 X.page, .int .i64 X.slot, .bool X.before.set, .string X.before.data, .bool X.after.set, .string X.after.data], 29), (g10, pgA q, 27), (w.heap.size + 1 + 1, #[.int .i64 xb.page, .int .i64 xb.slot, .bool xb.before.set, .string xb.before.data, .bool xb.after.set, .string xb.after.data], 29), (w.heap.size + 1, #[.int .i64 xa.page, .int .i64 xa.slot, .bool xa.before.set, .string xa.before.data, .bool xa.after.set, .string xa.after.data], 29), (w.heap.size, pgA p, 27)] W → Hd (Sk c w.heap.size w [(w13.heap.size, #[.int .i64 (joinF A D).1.page, .int .i64 (joinF A D).1.slot, .bool (joinF A D).1.before.set, .string (joinF A D).1.before.data, .bool (joinF A D).1.after.set, .string (joinF A D).1.after.data], 29), (w12.heap.size, #[.int .i64 (joinF A D).1.page, .int .i64 (joinF A D).1.slot, .bool (joinF A D).1.before.set, .string (joinF A D).1.before.data, .bool (joinF A D).1.after.set, .string (joinF A D).1.after.data], 29), (wr.heap.size, #[.int .i64 A.page, .int .i64 A.slot, .bool A.before.set, .string A.before.data, .bool A.after.set, .string A.after.data, .int .i64 D.page, .int .i64 D.slot, .bool D.before.set, .string D.before.data, .bool D.after.set, .string D.after.data], 36), (gz, zsA xa xb X Y y1 Y X y2, 36), (g11 + 1, #[.int .i64 Y.page, .int .i64 Y.slot, .bool Y.before.set, .string Y.before.data, .bool Y.after.set, .string Y.after.data], 29), (g11, #[.int .i64 X.page, .int .i64 X.slot, .bool X.before.set, .string X.before.data, .bool X.after.set, .string X.after.data], 29), (g10, pgA q, 27), (w.heap.size + 1 + 1, #[.int .i64 xb.page, .int .i64 xb.slot, .bool xb.before.set, .string xb.before.data, .bool xb.after.set, .string xb.after.data], 29), (w.heap.size + 1, #[.int .i64 xa.page, .int .i64 xa.slot, .bool xa.before.set, .string xa.before.data, .bool xa.after.set, .string xa.after.data], 29), (w.heap.size, pgA p, 27)] W) ∧ rowAt W (w.heap.size) = pgA p ∧ rowAt W (g10) = pgA q :=
          fun W hW => ⟨⟨hW⟩, (hW.at (w.heap.size) (pgA p) 27 (by simp)).1, (hW.at (g10) (pgA q) 27 (by simp)).1⟩
        have HW := Hd.mk hw
        clear hw
        go_region_held3 (fun W => Hd (Sk c w.heap.size w [(w13.heap.size, #[.int .i64 (joinF A D).1.page, .int .i64 (joinF A D).1.slot, .bool (joinF A D).1.before.set, .string (joinF A D).1.before.data, .bool (joinF A D).1.after.set, .string (joinF A D).1.after.data], 29), (w12.heap.size, #[.int .i64 (joinF A D).1.page, .int .i64 (joinF A D).1.slot, .bool (joinF A D).1.before.set, .string (joinF A D).1.before.data, .bool (joinF A D).1.after.set, .string (joinF A D).1.after.data], 29), (wr.heap.size, #[.int .i64 A.page, .int .i64 A.slot, .bool A.before.set, .string A.before.data, .bool A.after.set, .string A.after.data, .int .i64 D.page, .int .i64 D.slot, .bool D.before.set, .string D.before.data, .bool D.after.set, .string D.after.data], 36), (gz, zsA xa xb X Y y1 Y X y2, 36), (g11 + 1, #[.int .i64 Y.page, .int .i64 Y.slot, .bool Y.before.set, .string Y.before.data, .bool Y.after.set, .string Y.after.data], 29), (g11, #[.int .i64 X.page, .int .i64 X.slot, .bool X.before.set, .string X.before.data, .bool X.after.set, .string X.after.data], 29), (g10, pgA q, 27), (w.heap.size + 1 + 1, #[.int .i64 xb.page, .int .i64 xb.slot, .bool xb.before.set, .string xb.before.data, .bool xb.after.set, .string xb.after.data], 29), (w.heap.size + 1, #[.int .i64 xa.page, .int .i64 xa.slot, .bool xa.before.set, .string xa.before.data, .bool xa.after.set, .string xa.after.data], 29), (w.heap.size, pgA p, 27)] W) ∧ rowAt W (w.heap.size) = pgA p ∧ rowAt W (g10) = pgA q)
          (exact HW.out _ (HS.out.dr (by first | exact Dr.drew c _ | exact (Dr.drew c _).trans hd26 | exact ((Dr.drew c _).trans hd26).trans (Dr.alloc c _ _))))
          (first | (go_at_call 26; refine (oddPage_any c q _ ?_).mono ?_; exact (HS.out.dr (Dr.drew c _)).cds; rintro e W26 ⟨p3, rfl, hd26⟩))
        have S := ((HS.out.dr (Dr.drew c _)).dr hd26).alloc (pgsA p q p3) 27 W26.heap.size rfl
        clear HS HW hd26
        have HS := Hd.mk S
        clear S
        obtain ⟨wo, rfl⟩ : ∃ wo : World, wo = wr := ⟨_, rfl⟩
        go_wp2_with fail
        go_loopw [140] (fun v wr2 => ∃ k2 : Nat, k2 ≤ 3 ∧ v = .int .i64 (k2 : Int) ∧ Hd (Sk c w.heap.size w [(W26.heap.size, pgsA p q p3, 27), (w13.heap.size, #[.int .i64 (joinF A D).1.page, .int .i64 (joinF A D).1.slot, .bool (joinF A D).1.before.set, .string (joinF A D).1.before.data, .bool (joinF A D).1.after.set, .string (joinF A D).1.after.data], 29), (w12.heap.size, #[.int .i64 (joinF A D).1.page, .int .i64 (joinF A D).1.slot, .bool (joinF A D).1.before.set, .string (joinF A D).1.before.data, .bool (joinF A D).1.after.set, .string (joinF A D).1.after.data], 29), (wo.heap.size, #[.int .i64 A.page, .int .i64 A.slot, .bool A.before.set, .string A.before.data, .bool A.after.set, .string A.after.data, .int .i64 D.page, .int .i64 D.slot, .bool D.before.set, .string D.before.data, .bool D.after.set, .string D.after.data], 36), (gz, zsA xa xb X Y y1 Y X y2, 36), (g11 + 1, #[.int .i64 Y.page, .int .i64 Y.slot, .bool Y.before.set, .string Y.before.data, .bool Y.after.set, .string Y.after.data], 29), (g11, #[.int .i64 X.page, .int .i64 X.slot, .bool X.before.set, .string X.before.data, .bool X.after.set, .string X.after.data], 29), (g10, pgA q, 27), (w.heap.size + 1 + 1, #[.int .i64 xb.page, .int .i64 xb.slot, .bool xb.before.set, .string xb.before.data, .bool xb.after.set, .string xb.after.data], 29), (w.heap.size + 1, #[.int .i64 xa.page, .int .i64 xa.slot, .bool xa.before.set, .string xa.before.data, .bool xa.after.set, .string xa.after.data], 29), (w.heap.size, pgA p, 27)] wr2)) (fun v _ => 3 - (intOf v).toNat)
        case atStart => exact ⟨0, by omega, rfl, HS⟩
        case round =>
          clear HS
          obtain ⟨k2, hk2, rfl, HS⟩ := hrel
          by_cases hlt2 : k2 < 3
          · obtain ⟨z3, z4⟩ := HS.out.cellsAt W26.heap.size (pgsA p q p3) 27 (by simp)
            have hl := run_ld27 z3 hlt2
            generalize pAt p q p3 k2 = P at hl
            have q3 : (0 : Int) ≤ k2 := by omega
            have q4 : (k2 : Int) < 3 := by omega
            obtain ⟨r1, r2, r3, r4⟩ := HS.out.at wo.heap.size #[.int .i64 A.page, .int .i64 A.slot, .bool A.before.set, .string A.before.data, .bool A.after.set, .string A.after.data, .int .i64 D.page, .int .i64 D.slot, .bool D.before.set, .string D.before.data, .bool D.after.set, .string D.after.data] 36 (by simp)
            clear z3 z4
            go_wp2_with fail
            refine (apply27 P A _).mono ?_
            rintro e wa ⟨rfl, hb⟩
            have S := (HS.out.alloc (pgA P) 27 wr.heap.size rfl).step hb
            clear hb HS hl r1 r2 r3 r4
            obtain ⟨r1, r2, r3, r4⟩ := S.at wo.heap.size #[.int .i64 A.page, .int .i64 A.slot, .bool A.before.set, .string A.before.data, .bool A.after.set, .string A.after.data, .int .i64 D.page, .int .i64 D.slot, .bool D.before.set, .string D.before.data, .bool D.after.set, .string D.after.data] 36 (by simp)
            obtain ⟨s1', s2', s3', s4'⟩ := S.at wr.heap.size (pgA P) 27 (by simp)
            have HS := Hd.mk S
            clear S
            go_wp2_with fail
            refine (apply28 P A _).mono ?_
            rintro e wb ⟨rfl, hb⟩
            have S := (HS.out.alloc (pgA (applyF P A).1) 27 wa.heap.size rfl).step hb
            clear hb HS r1 r2 r3 r4 s1' s2' s3' s4'
            obtain ⟨r1, r2, r3, r4⟩ := S.at wa.heap.size (pgA (applyF P A).1) 27 (by simp)
            have HS := Hd.mk (S.alloc (pgA (applyF P A).1) 27 wb.heap.size rfl)
            clear S
            have e1 := pgEq_refl (applyF P A).1
            go_wp2_with fail
            go_roundw
            case rel => exact ⟨k2 + 1, by omega, by go_num, ⟨HS.out.sub (fun x hx => List.mem_cons_of_mem _ (List.mem_cons_of_mem _ (List.mem_cons_of_mem _ (hx))))⟩⟩
            case measure => simp [intOf]; omega
          · go_wp2_with fail
            go_roundw
            case rel => exact ⟨k + 1, by omega, by go_num, ⟨HS.out.sub (fun x hx => List.mem_cons_of_mem _ (List.mem_cons_of_mem _ (List.mem_cons_of_mem _ (List.mem_cons_of_mem _ (hx)))))⟩⟩
            case measure => simp [intOf]; omega
      · go_wp2_with fail
        go_ret
        exact ⟨rfl, HS.out.below⟩
end Go.Proofs.Ytiebdcejlkeoiaa
