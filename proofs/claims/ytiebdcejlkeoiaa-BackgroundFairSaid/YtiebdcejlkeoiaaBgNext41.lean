/- The walks of the two choices of background work: of the program and of the document. -/
import Derived.Test.YtiebdcejlkeoiaaBgFirst
namespace Go.Proofs.Ytiebdcejlkeoiaa
open Go.RowKit
set_option linter.unusedSimpArgs false
set_option linter.unusedVariables false

/-! ### how far the next choice is -/
def lenR : Nat → Qu → List Wk → Nat
  | 0, _, _ => 0
  | n + 1, q, l => if rdy q l then 0 else lenR n (adv q) l + 1
theorem lenR_fuel {l : List Wk} (n m : Nat) {q : Qu} (h : reach n q l = true) (hm : n ≤ m) : lenR m q l = lenR n q l := by
  induction n generalizing q m with
  | zero => cases h
  | succ n ih =>
    obtain ⟨m, rfl⟩ : ∃ m', m = m' + 1 := ⟨m - 1, by omega⟩
    cases hr : rdy q l with
    | true => simp [lenR, hr]
    | false =>
      have h2 : reach n (adv q) l = true := by simpa [reach, hr] using h
      simp [lenR, hr, ih m h2 (by omega)]
theorem pick_fuel {l : List Wk} (n m : Nat) {q : Qu} (h : reach n q l = true) (hm : n ≤ m) : pick m q l = pick n q l := by
  induction n generalizing q m with
  | zero => cases h
  | succ n ih =>
    obtain ⟨m, rfl⟩ : ∃ m', m = m' + 1 := ⟨m - 1, by omega⟩
    cases hr : rdy q l with
    | true => simp [pick, hr]
    | false =>
      have h2 : reach n (adv q) l = true := by simpa [reach, hr] using h
      simp [pick, hr, ih m h2 (by omega)]
theorem step_len {l : List Wk} {q : Qu} (h : Vq q) (hs : someQ q.s l = true) (hr : rdy q l = false) : lenR 20 (adv q) l < lenR 20 q l := by
  have h9 := reach_any h hs
  have h8 : reach 8 (adv q) l = true := by simpa [reach, hr] using h9
  rw [lenR_fuel 8 20 h8 (by omega)]
  have : lenR 20 q l = lenR 19 (adv q) l + 1 := by simp [lenR, hr]
  rw [this, lenR_fuel 8 19 h8 (by omega)]
  omega
theorem step_pick {l : List Wk} {q : Qu} (h : Vq q) (hs : someQ q.s l = true) (hr : rdy q l = false) : pick 9 (adv q) l = pick 9 q l := by
  have h9 := reach_any h hs
  have h8 : reach 8 (adv q) l = true := by simpa [reach, hr] using h9
  have : pick 9 q l = pick 8 (adv q) l := by simp [pick, hr]
  rw [this, pick_fuel 8 9 h8 (by omega)]
theorem here_pick {l : List Wk} {q : Qu} (hr : rdy q l = true) : pick 9 q l = q := by simp [pick, hr]
def cellInt (c : Array Value) (i : Nat) : Int := match c[i]? with | some (.int _ n) => n | _ => 0
/-- How far the next choice is, read out of the memory. -/
def muQ (s : Nat → Int) (l : List Wk) (g : Nat) (w : World) : Nat := lenR 20 ⟨s, cellInt (rowAt w g) 8, cellInt (rowAt w g) 9⟩ l
theorem muQ_of {s : Nat → Int} {l : List Wk} {g : Nat} {w : World} {q : Qu} (h : rowAt w g = quA q) (hs : q.s = s) : muQ s l g w = lenR 20 q l := by
  subst hs
  unfold muQ
  rw [h]
  simp only [cellInt, quA_8, quA_9]

theorem results_4 {fn : Func} {p q r t : Tmp} (h : fn.results = #[.cell p 64, .cell q 70, .tmp r, .tmp t]) {tmps : Array Value} {w : World} {a b : Addr} {v u x y : Value}
    (hp : tmps.getD p undef = .pointer (some a)) (hl : (ldv 64 a).run Try.prog w = .ok v w) (hq : tmps.getD q undef = .pointer (some b)) (hl2 : (loadVar 70 b).run Try.prog w = .ok u w) (hr : tmps.getD r undef = x) (ht : tmps.getD t undef = y) :
    (results fn tmps).run Try.prog w = .ok (.tuple #[v, u, x, y]) w := by
  rw [← ldv_eq] at hl
  simp only [results, h, Array.getD_eq_getD_getElem?] at hp hq hr ht ⊢
  simp [hp, hq, hr, ht, asAddr, hl, hl2, Sem.run_bind, Result.andThen]
theorem Pre.turn {B : Nat} {w0 w w' : World} {l : Ents} (h : Pre B w0 l w) {g : Nat} {a : Array Value} {t : TypeId} (hg : w'.heap[g]? = some (.cells a t (0, 0))) (hB : B ≤ g) (hs : w'.heap.size = w.heap.size) (ho : w'.os = w.os) (ht : w'.tape = w.tape) (hu : w'.output = w.output)
    (hk : ∀ k, k ≠ g → w'.heap[k]? = w.heap[k]?) {l' : Ents} (hl : ∀ x ∈ l', x ∈ l ∧ x.1 ≠ g) : Pre B w0 ((g, a, t) :: l') w' := by
  refine ⟨h.below.trans ⟨ho, ht, hu, by omega, fun k hk' => hk k (by omega)⟩, h.hB, fun x hx => ?_⟩
  rcases List.mem_cons.1 hx with rfl | hx
  · exact ⟨hB, hg⟩
  · exact ⟨(h.mem x (hl x hx).1).1, by rw [hk x.1 (hl x hx).2]; exact (h.mem x (hl x hx).1).2⟩
theorem Pre.setCell {B : Nat} {w0 w : World} {l : Ents} (h : Pre B w0 l w) (g : Nat) (a : Array Value) (t : TypeId) (hm : (g, a, t) ∈ l) (i : Nat) (v : Value) {l' : Ents} (hl : ∀ x ∈ l', x ∈ l ∧ x.1 ≠ g) : Pre B w0 ((g, a.setIfInBounds i v, t) :: l') (w.setCell ⟨g, i, none⟩ v) :=
  h.turn (heap_setCell_same w g i a t v (h.mem _ hm).2) (h.mem _ hm).1 (by simp) rfl rfl rfl (fun k hk => Below.heap_setCell _ _ _ _ hk) hl
@[go_sem] theorem frozen_setRow (w : World) (g k o : Nat) (c : Array Value) (h : live w k = true) : (w.setRow g c).frozen? ⟨k, o, none⟩ = false := by
  obtain ⟨t, hh⟩ := heap_of_live (live_setRow w g k c h)
  exact frozen_of_row _ k o _ t hh
@[go_sem] theorem cell_setRow_other (w : World) (g k o : Nat) (c : Array Value) (h : k ≠ g) : (w.setRow g c).cell? ⟨k, o, none⟩ = w.cell? ⟨k, o, none⟩ :=
  World.cell?_of_block (w := w) (setRow_other _ _ _ _ h)
@[go_sem] theorem cell_setRow_same (w : World) (g o : Nat) (c : Array Value) (h : live w g = true) : (w.setRow g c).cell? ⟨g, o, none⟩ = c[o]? := by
  obtain ⟨t, hh⟩ := heap_of_live h
  exact cell_of_row _ g o c t _ (setRow_heap w g _ c t _ hh)
/-- Two blocks are as they were. -/
structure Kept2 (H b : Nat) (W0 W : World) : Prop where
  h1 : W.heap[H]? = W0.heap[H]?
  h2 : W.heap[b]? = W0.heap[b]?
theorem Kept2.refl (H b : Nat) (W : World) : Kept2 H b W W := ⟨rfl, rfl⟩
theorem Kept2.drew {H b : Nat} {u v : World} (h : Kept2 H b u v) : Kept2 H b u v.drew := ⟨h.h1, h.h2⟩
theorem Kept2.setRow {H b : Nat} {u v : World} (h : Kept2 H b u v) (g : Nat) (c : Array Value) (x : H ≠ g) (y : b ≠ g) : Kept2 H b u (v.setRow g c) := ⟨(setRow_other _ _ _ _ x).trans h.h1, (setRow_other _ _ _ _ y).trans h.h2⟩
theorem Kept2.setCell {H b : Nat} {u v : World} (h : Kept2 H b u v) (g i : Nat) (c : Value) (x : H ≠ g) (y : b ≠ g) : Kept2 H b u (v.setCell ⟨g, i, none⟩ c) := ⟨(Below.heap_setCell _ _ _ _ x).trans h.h1, (Below.heap_setCell _ _ _ _ y).trans h.h2⟩
theorem fin_below {H : Nat} {u v : World} (h : Below H u v) (c : Array Value) (x y : Value) : Below H u (((v.setRow (H + 1) c).setCell ⟨H + 1 + 1, 0, none⟩ x).setCell ⟨H + 1 + 1, 1, none⟩ y) := by
  refine Below.setCell (Below.setCell (below_setRow h (by omega) c) ?_ _) ?_ _ <;> (dsimp only; omega)
def NextPost (r : Qu × Wk × Bool × Int) (w : World) (e : Ending) (w' : World) : Prop :=
  e = .returned (.tuple #[.agg (quA r.1), .agg #[.int .i64 r.2.1.1, .int .i64 r.2.1.2], .bool r.2.2.1, .int .i64 r.2.2.2]) ∧ Below w.heap.size w w'
def anyO (s : Nat → Int) (l : List Wk) (n : Nat) : Bool := (List.range n).any (off s l)
theorem anyO_succ (s : Nat → Int) (l : List Wk) (n : Nat) : anyO s l (n + 1) = (anyO s l n || off s l n) := by
  simp [anyO, List.range_succ]

set_option maxHeartbeats 4000000 in
theorem next41 (a : Option Addr) (cap : Nat) (l : List Wk) (q : Qu) (w : World) (hl : l.length ≤ 100) (hW : WkS w a l) :
    Calls Try.prog 41 #[.agg (quA q), .slice a l.length cap] w (NextPost (nextF q l) w) := by
  have HW := Hd.mk hW
  clear hW
  go_enter Try.func41, Try.ntmps41
  go_wp2_with fail
  refine (valid42 q _).mono ?_
  rintro e w1 ⟨rfl, hb⟩
  have S := ((((Pre.nil w).alloc (quA q) 64 w.heap.size rfl).alloc (quA zQ) 64 (w.heap.size + 1) (by simp)).alloc #[.int .i64 0, .int .i64 0] 70 (w.heap.size + 1 + 1) (by simp)).step hb
  obtain ⟨H, hH⟩ : ∃ H, H = w.heap.size := ⟨_, rfl⟩
  rw [← hH] at S ⊢
  clear hb
  cases hv : vq q with
  | false =>
    have HN := Hd.mk (next_bad (l := l) hv)
    obtain ⟨b1, b2, b3, b4⟩ := S.at (H + 1) (quA zQ) 64 (by simp)
    have B := (S.mem (H + 1 + 1, #[.int .i64 0, .int .i64 0], 70) (by simp)).2
    obtain ⟨d1, d2, d3, d4, d5⟩ := blk B
    clear hv B
    have HS := Hd.mk S
    have HH := Hd.mk hH
    clear S hH
    go_wp2_with fail
    refine bodyPost_ret (v := .tuple #[.agg (quA zQ), .agg #[.int .i64 0, .int .i64 0], .bool false, .int .i64 53]) (results_4 rfl rfl (by simp (maxDischargeDepth := 6) [go_sem, b1, b2, d1, d2]) rfl (by simp (maxDischargeDepth := 6) [go_sem, b1, b2, d1, d2, d3, d4]) rfl rfl) rfl ⟨by rw [HN.out], ?_⟩
    rw [← HH.out]
    exact fin_below HS.out.below _ _ _
  | true =>
    have HV := Hd.mk hv
    have HH := Hd.mk hH
    have HS := Hd.mk S
    have HL := Hd.mk (show w.heap.size ≤ w1.heap.size from by rw [← hH]; exact S.hBw)
    clear hv hH S
    go_wp2_with fail
    go_loopw [8, 9] (fun t v wr => ∃ k : Nat, k ≤ 8 ∧ v = .int .i64 ((k : Int) + 1) ∧ t = .bool (anyO q.s l k) ∧ Hd (Pre H w [(H + 1 + 1, #[.int .i64 0, .int .i64 0], 70), (H + 1, quA zQ, 64), (H, quA q, 64)] wr)) (fun _ v _ => 9 - (intOf v).toNat)
    case atStart => exact ⟨0, by omega, by simp, rfl, HS⟩
    case round =>
      clear HS
      obtain ⟨k, hk, rfl, rfl, HS⟩ := hrel
      by_cases hlt : k < 8
      · have q1 : (k : Int) + 1 ≤ 8 := by omega
        go_wp2_with fail
        have HW1 := Hd.mk (HW.out.below (by have := HS.out.below; rw [HH.out] at this; exact this))
        refine (first53 a cap l ((k : Int) + 1) _ hl HW1.out).mono ?_
        rintro e w2 ⟨rfl, hb⟩
        have S := HS.out.step hb
        replace S := S.alloc #[.int .i64 (fstK l ((k : Int) + 1)).1, .int .i64 (fstK l ((k : Int) + 1)).2] 70 w2.heap.size rfl
        have hs := quA_s q k hlt
        obtain ⟨b1, b2⟩ := S.cellsAt H (quA q) 64 (by simp)
        have HS2 := Hd.mk S
        have HO := Hd.mk (anyO_succ q.s l k)
        clear S hb HS HW1
        cases ht : anyO q.s l k with
        | true =>
          have HT := Hd.mk ht
          clear ht
          go_wp2_with fail
          go_roundw
          case rel => exact ⟨k + 1, by omega, by go_num, by rw [HO.out, HT.out]; rfl, ⟨HS2.out.sub (fun x hx => List.mem_cons_of_mem _ hx)⟩⟩
          case measure => simp [intOf]; omega
        | false =>
          have HT := Hd.mk ht
          clear ht
          cases hk2 : hasK l ((k : Int) + 1) with
          | true =>
            have HK := Hd.mk hk2
            clear hk2
            go_wp2_with fail
            go_roundw
            case rel => exact ⟨k + 1, by omega, by go_num, by rw [HO.out, HT.out]; simp [off, HK.out], ⟨HS2.out.sub (fun x hx => List.mem_cons_of_mem _ hx)⟩⟩
            case measure => simp [intOf]; omega
          | false =>
            have HK := Hd.mk hk2
            clear hk2
            go_wp2_with fail
            go_roundw
            case rel => exact ⟨k + 1, by omega, by go_num, by rw [HO.out, HT.out]; simp [off, HK.out], ⟨HS2.out.sub (fun x hx => List.mem_cons_of_mem _ hx)⟩⟩
            case measure => simp [intOf]; omega
      · obtain rfl : k = 8 := by omega
        have he : anyO q.s l 8 = someQ q.s l := rfl
        rw [he]
        clear he
        obtain ⟨b1, b2, b3, b4⟩ := HS.out.at H (quA q) 64 (by simp)
        cases hsm : someQ q.s l with
        | false =>
          have HN := Hd.mk (next_none (l := l) HV.out hsm)
          clear hsm
          obtain ⟨c1, c2, c3, c4⟩ := HS.out.at (H + 1) (quA zQ) 64 (by simp)
          have B := (HS.out.mem (H + 1 + 1, #[.int .i64 0, .int .i64 0], 70) (by simp)).2
          obtain ⟨d1, d2, d3, d4, d5⟩ := blk B
          clear B
          go_wp2_with fail
          refine bodyPost_ret (v := .tuple #[.agg (quA q), .agg #[.int .i64 0, .int .i64 0], .bool false, .int .i64 0]) (results_4 rfl rfl (by simp (maxDischargeDepth := 6) [go_sem, b1, b2, c1, c2, d1, d2]) rfl (by simp (maxDischargeDepth := 6) [go_sem, b1, b2, c1, c2, d1, d2, d3, d4]) rfl rfl) rfl ⟨by rw [HN.out], ?_⟩
          rw [← HH.out]
          exact fin_below HS.out.below _ _ _
        | true =>
          have HM := Hd.mk hsm
          have HN := Hd.mk (next_some (l := l) HV.out hsm)
          clear hsm b1 b2 b3 b4
          go_wp2_with fail
          go_loopw [13] (fun _ wr => ∃ Q : Qu, Hd (Vq Q ∧ Q.s = q.s ∧ pick 9 Q l = pick 9 q l) ∧ Hd (Pre H w [(H + 1 + 1, #[.int .i64 0, .int .i64 0], 70), (H + 1, quA zQ, 64), (H, quA Q, 64)] wr)) (fun _ wr => muQ q.s l H wr)
          case atStart => exact ⟨q, ⟨(vq_iff q).1 HV.out, rfl, rfl⟩, HS⟩
          case round =>
            clear HS
            obtain ⟨Q, HQ, HS⟩ := hrel
            have HMU : Hd (muQ q.s l H wr = lenR 20 Q l) := ⟨muQ_of (HS.out.at H (quA Q) 64 (by simp)).1 HQ.out.2.1⟩
            have HSM : Hd (someQ Q.s l = true) := ⟨by rw [HQ.out.2.1]; exact HM.out⟩
            obtain ⟨b1, b2⟩ := HS.out.cellsAt H (quA Q) 64 (by simp)
            have HW1 := Hd.mk (HW.out.below (by have := HS.out.below; rw [HH.out] at this; exact this))
            go_wp2_with fail
            refine (first53 a cap l Q.kind _ hl HW1.out).mono ?_
            rintro e w2 ⟨rfl, hb⟩
            have S := HS.out.step hb
            replace S := S.alloc #[.int .i64 (fstK l Q.kind).1, .int .i64 (fstK l Q.kind).2] 70 w2.heap.size rfl
            clear b1 b2 HW1
            obtain ⟨b1, b2⟩ := S.cellsAt H (quA Q) 64 (by simp)
            have HS2 := Hd.mk S
            have HSZ : Hd (H + 1 + 1 < w2.heap.size) := ⟨HS.out.step hb |>.lt (x := (H + 1 + 1, #[.int .i64 0, .int .i64 0], 70)) (by simp)⟩
            clear S HS hb
            cases hk2 : hasK l Q.kind with
            | false =>
              have HR : Hd (rdy Q l = false) := ⟨by simp [rdy, hk2]⟩
              clear hk2
              go_wp2_with fail
              go_quiet (fail)
              have HS5 := Hd.mk (HS2.out.step (below_drewN (Below.refl _ _) nq))
              clear b1 b2 HS2
              generalize hwx : (w2.alloc (.cells #[.int .i64 (fstK l Q.kind).1, .int .i64 (fstK l Q.kind).2] 70)).drewN nq = W5 at HS5 ⊢
              clear hwx
              obtain ⟨b1, b2⟩ := HS5.out.cellsAt H (quA Q) 64 (by simp)
              have S6 := HS5.out.setCell H (quA Q) 64 (by simp) 8 (.int .i64 (Q.kind % 8 + 1)) (l' := [(w2.heap.size, #[.int .i64 (fstK l Q.kind).1, .int .i64 (fstK l Q.kind).2], 70), (H + 1 + 1, #[.int .i64 0, .int .i64 0], 70), (H + 1, quA zQ, 64)]) (fun z hz => ⟨by simp at hz ⊢; rcases hz with rfl | rfl | rfl <;> simp, by simp at hz; have := HSZ.out; rcases hz with rfl | rfl | rfl <;> dsimp only <;> omega⟩)
              rw [quA_kind] at S6
              replace S6 := S6.setCell H _ 64 (List.mem_cons_self ..) 9 (.int .i64 0) (l' := [(w2.heap.size, #[.int .i64 (fstK l Q.kind).1, .int .i64 (fstK l Q.kind).2], 70), (H + 1 + 1, #[.int .i64 0, .int .i64 0], 70), (H + 1, quA zQ, 64)]) (fun z hz => ⟨List.mem_cons_of_mem _ hz, by simp at hz; have := HSZ.out; rcases hz with rfl | rfl | rfl <;> dsimp only <;> omega⟩)
              rw [quA_used] at S6
              have HS6 := Hd.mk S6
              clear S6
              have k1 := HQ.out.1.k1
              have k8 := HQ.out.1.k8
              go_wp2_with fail
              go_roundw
              case rel => exact ⟨adv Q, ⟨HQ.out.1.adv, HQ.out.2.1, by rw [step_pick HQ.out.1 HSM.out HR.out]; exact HQ.out.2.2⟩, ⟨HS6.out.sub (fun z hz => by simp at hz ⊢; rcases hz with rfl | rfl | rfl <;> simp [adv])⟩⟩
              case measure =>
                rw [HMU.out, muQ_of (q := adv Q) (HS6.out.at H (quA (adv Q)) 64 (by simp [adv])).1 HQ.out.2.1]
                exact step_len HQ.out.1 HSM.out HR.out

            | true =>
              have k1 := HQ.out.1.k1
              have k8 := HQ.out.1.k8
              have hs : (quA Q)[Q.kind.toNat - 1]? = some (.int .i64 (Q.sh Q.kind)) := by rw [quA_s Q _ (by omega)]; unfold Qu.sh; rw [show (Q.kind - 1).toNat = Q.kind.toNat - 1 by omega]
              have q2 : 0 ≤ Q.kind - 1 := by omega
              have q3 : Q.kind - 1 < 8 := by omega
              by_cases hu : Q.used < Q.sh Q.kind
              case neg =>
                have HR : Hd (rdy Q l = false) := ⟨by simp [rdy, hu]⟩
                have d1 : decide (Q.used < Q.sh Q.kind) = false := by simp; omega
                clear hu hk2
                go_wp2_with fail
                go_quiet (fail)
                clear hs q2 q3 d1 k1 k8
                have HS5 := Hd.mk (HS2.out.step (below_drewN (Below.refl _ _) nq))
                clear b1 b2 HS2
                generalize hwx : (w2.alloc (.cells #[.int .i64 (fstK l Q.kind).1, .int .i64 (fstK l Q.kind).2] 70)).drewN nq = W5 at HS5 ⊢
                clear hwx
                obtain ⟨b1, b2⟩ := HS5.out.cellsAt H (quA Q) 64 (by simp)
                have S6 := HS5.out.setCell H (quA Q) 64 (by simp) 8 (.int .i64 (Q.kind % 8 + 1)) (l' := [(w2.heap.size, #[.int .i64 (fstK l Q.kind).1, .int .i64 (fstK l Q.kind).2], 70), (H + 1 + 1, #[.int .i64 0, .int .i64 0], 70), (H + 1, quA zQ, 64)]) (fun z hz => ⟨by simp at hz ⊢; rcases hz with rfl | rfl | rfl <;> simp, by simp at hz; have := HSZ.out; rcases hz with rfl | rfl | rfl <;> dsimp only <;> omega⟩)
                rw [quA_kind] at S6
                replace S6 := S6.setCell H _ 64 (List.mem_cons_self ..) 9 (.int .i64 0) (l' := [(w2.heap.size, #[.int .i64 (fstK l Q.kind).1, .int .i64 (fstK l Q.kind).2], 70), (H + 1 + 1, #[.int .i64 0, .int .i64 0], 70), (H + 1, quA zQ, 64)]) (fun z hz => ⟨List.mem_cons_of_mem _ hz, by simp at hz; have := HSZ.out; rcases hz with rfl | rfl | rfl <;> dsimp only <;> omega⟩)
                rw [quA_used] at S6
                have HS6 := Hd.mk S6
                clear S6
                have k1 := HQ.out.1.k1
                have k8 := HQ.out.1.k8
                go_wp2_with fail
                go_roundw
                case rel => exact ⟨adv Q, ⟨HQ.out.1.adv, HQ.out.2.1, by rw [step_pick HQ.out.1 HSM.out HR.out]; exact HQ.out.2.2⟩, ⟨HS6.out.sub (fun z hz => by simp at hz ⊢; rcases hz with rfl | rfl | rfl <;> simp [adv])⟩⟩
                case measure =>
                  rw [HMU.out, muQ_of (q := adv Q) (HS6.out.at H (quA (adv Q)) 64 (by simp [adv])).1 HQ.out.2.1]
                  exact step_len HQ.out.1 HSM.out HR.out

              case pos =>
                have HR : Hd (rdy Q l = true) := ⟨by simp [rdy, hu, hk2]⟩
                have d1 : decide (Q.used < Q.sh Q.kind) = true := by simp; omega
                have hu0 := HQ.out.1.u0
                have hu1 : Q.sh Q.kind ≤ 100 := (HQ.out.1.s0 _ HQ.out.1.i8).2
                clear hk2
                go_wp2_with fail
                go_quiet (fail)
                clear hs q2 q3 d1 k1 k8
                have HS5 := Hd.mk (HS2.out.step (below_drewN (Below.refl _ _) nq))
                clear b1 b2 HS2
                generalize hwx : (w2.alloc (.cells #[.int .i64 (fstK l Q.kind).1, .int .i64 (fstK l Q.kind).2] 70)).drewN nq = W5 at HS5 ⊢
                clear hwx
                obtain ⟨b1, b2⟩ := HS5.out.cellsAt H (quA Q) 64 (by simp)
                have S6 := HS5.out.setCell H (quA Q) 64 (by simp) 9 (.int .i64 (Q.used + 1)) (l' := [(w2.heap.size, #[.int .i64 (fstK l Q.kind).1, .int .i64 (fstK l Q.kind).2], 70), (H + 1 + 1, #[.int .i64 0, .int .i64 0], 70), (H + 1, quA zQ, 64)]) (fun z hz => ⟨by simp at hz ⊢; rcases hz with rfl | rfl | rfl <;> simp, by simp at hz; have := HSZ.out; rcases hz with rfl | rfl | rfl <;> dsimp only <;> omega⟩)
                rw [quA_used] at S6
                have HS6 := Hd.mk S6
                clear S6
                go_wp2_with fail
                clear b1 b2
                generalize hwx : W5.setCell ⟨H, 9, none⟩ (.int .i64 (Q.used + 1)) = W6 at HS6 ⊢
                clear hwx
                have n1 : w2.heap.size ≠ H + 1 := by have := HSZ.out; omega
                have n2 : w2.heap.size ≠ H + 1 + 1 := by have := HSZ.out; omega
                have n3 : w2.heap.size ≠ H := by have := HSZ.out; omega
                obtain ⟨a1, a2, -, -⟩ := HS6.out.at H (quA { Q with used := Q.used + 1 }) 64 (by simp)
                obtain ⟨b1, b2, -, -⟩ := HS6.out.at (H + 1) (quA zQ) 64 (by simp)
                obtain ⟨c1, c2, c3, c4, c5⟩ := blk (HS6.out.mem (w2.heap.size, #[.int .i64 (fstK l Q.kind).1, .int .i64 (fstK l Q.kind).2], 70) (by simp)).2
                obtain ⟨d1, d2, d3, d4, d5⟩ := blk (HS6.out.mem (H + 1 + 1, #[.int .i64 0, .int .i64 0], 70) (by simp)).2
                have hw : ∀ W : World, Kept2 H w2.heap.size W6 W → Hd (Kept2 H w2.heap.size W6 W) ∧ rowAt W H = quA { Q with used := Q.used + 1 } ∧ W.cell? ⟨w2.heap.size, 0, none⟩ = some (.int .i64 (fstK l Q.kind).1) ∧ W.cell? ⟨w2.heap.size, 1, none⟩ = some (.int .i64 (fstK l Q.kind).2) := fun W hW =>
                  ⟨⟨hW⟩, (by unfold rowAt at a1 ⊢; rw [hW.h1]; exact a1), (World.cell?_of_block (w := W6) hW.h2).trans (c3 0), (World.cell?_of_block (w := W6) hW.h2).trans (c3 1)⟩
                have HWW := Hd.mk hw
                have n4 : H ≠ H + 1 := by omega
                have n5 : H ≠ H + 1 + 1 := by omega
                clear hw a1 a2 c1 c2 c3 c4 c5
                go_region_held3 (fun W => Hd (Kept2 H w2.heap.size W6 W) ∧ rowAt W H = quA { Q with used := Q.used + 1 } ∧ W.cell? ⟨w2.heap.size, 0, none⟩ = some (.int .i64 (fstK l Q.kind).1) ∧ W.cell? ⟨w2.heap.size, 1, none⟩ = some (.int .i64 (fstK l Q.kind).2)) (exact HWW.out _ (by repeat (first | exact Kept2.refl _ _ _ | exact Kept2.drew (Kept2.refl _ _ _) | refine Kept2.setCell ?_ _ _ _ n5 n2 | refine Kept2.setRow ?_ _ _ n4 n1 | refine Kept2.drew ?_))) (fail)
                all_goals
                  go_wp2_with fail
                  refine bodyPost_ret (v := .tuple #[.agg (quA { Q with used := Q.used + 1 }), .agg #[.int .i64 (fstK l Q.kind).1, .int .i64 (fstK l Q.kind).2], .bool true, .int .i64 0]) (results_4 rfl rfl (by simp (maxDischargeDepth := 6) [go_sem, b1, b2, d1, d2, n4, n5]) rfl (by simp (maxDischargeDepth := 6) [go_sem, b1, b2, d1, d2, d3, d4, d5]) rfl rfl) rfl ⟨by rw [HN.out, ← HQ.out.2.2, here_pick HR.out], ?_⟩
                  rw [← HH.out]
                  repeat (first | exact HS6.out.below | refine Below.setCell ?_ (show H ≤ H + 1 + 1 by omega) _ | refine below_setRow ?_ (show H ≤ H + 1 by omega) _ | refine Below.drew ?_)

end Go.Proofs.Ytiebdcejlkeoiaa
