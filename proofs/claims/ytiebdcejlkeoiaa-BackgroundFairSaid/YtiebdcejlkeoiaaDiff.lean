/- What Diff answers: the walks of right (f48), change.Diff (f31), the reference's Diff (f32) and Same (f33). -/
import Derived.Test.YtiebdcejlkeoiaaChain
import Derived.Deep.AppendLies
import Derived.Deep.RegionHeld3
import Derived.BigQuiet
namespace Go.Proofs.Ytiebdcejlkeoiaa
open Go.RowKit
set_option linter.unusedSimpArgs false
set_option linter.unusedVariables false

@[go_sem ↓ high] theorem bop24n (x y : Value) : binOp .neq 24 x y = bop .neq 24 x y := bop_eq _ _ _ _
@[go_sem ↓ high] theorem bop24e (x y : Value) : binOp .eql 24 x y = bop .eql 24 x y := bop_eq _ _ _ _
theorem run_bop24e (w : World) (x y : Cl) : (bop .eql 24 (.agg #[.bool x.set, .string x.data]) (.agg #[.bool y.set, .string y.data])).run Try.prog w = .ok (.bool (clEq x y)) w := by
  rw [← bop_eq, run_eql_struct, eq24 w 9998]; rfl
theorem run_bop24n (w : World) (x y : Cl) : (bop .neq 24 (.agg #[.bool x.set, .string x.data]) (.agg #[.bool y.set, .string y.data])).run Try.prog w = .ok (.bool (!clEq x y)) w := by
  rw [← bop_eq, run_neq_struct, eq24 w 9998]; rfl
@[go_sem] theorem run_bop24e' (w : World) (a : Bool) (x : ByteArray) (b : Bool) (y : ByteArray) : (bop .eql 24 (.agg #[.bool a, .string x]) (.agg #[.bool b, .string y])).run Try.prog w = .ok (.bool (clEq ⟨a, x⟩ ⟨b, y⟩)) w := run_bop24e w ⟨a, x⟩ ⟨b, y⟩
@[go_sem] theorem run_bop24n' (w : World) (a : Bool) (x : ByteArray) (b : Bool) (y : ByteArray) : (bop .neq 24 (.agg #[.bool a, .string x]) (.agg #[.bool b, .string y])).run Try.prog w = .ok (.bool (!clEq ⟨a, x⟩ ⟨b, y⟩)) w := run_bop24n w ⟨a, x⟩ ⟨b, y⟩
@[irreducible] def ixw (t : TypeId) (x y : Value) : Sem Value := Instr.index t x y
theorem ixw_eq (t : TypeId) (x y : Value) : Instr.index t x y = ixw t x y := by unfold ixw; rfl
@[go_sem ↓ high] theorem ixw25 (x y : Value) : Instr.index 25 x y = ixw 25 x y := ixw_eq _ _ _
theorem run_ix25 (w : World) (f : Nat → Cl) (k : Nat) (hk : k < 16) : (ixw 25 (.agg (clA f)) (.int .i64 (k : Int))).run Try.prog w = .ok (.agg #[.bool (f k).set, .string (f k).data]) w := by
  rw [← ixw_eq]
  unfold clA
  rcases k with _|_|_|_|_|_|_|_|_|_|_|_|_|_|_|_|k <;> first | (exfalso; omega) | kernel_rfl

@[go_sem] theorem Cl.eta (c : Cl) : Cl.mk c.set c.data = c := rfl
def okB (p : Pg) : Bool := (List.range 16).all fun i => clOk (p.cell i)
def okTo (p : Pg) (n : Nat) : Prop := ∀ i, i < n → clOk (p.cell i) = true
theorem okB_of (p : Pg) : okB p = true ↔ okTo p 16 := by simp [okB, okTo, List.all_eq_true]

set_option maxHeartbeats 1000000 in
theorem right48 (p : Pg) (w : World) : Calls Try.prog 48 #[.agg (pgA p)] w fun e w' => e = .returned (.bool (okB p)) ∧ Below w.heap.size w w' := by
  have h0 := run_ld25 (w.alloc (.cells (pgA p) 27)) w.heap.size p (by simp [go_sem])
  go_enter Try.func48, Try.ntmps48
  go_wp2_with fail
  clear h0
  go_loopw [7] (fun v wr => ∃ k : Nat, k ≤ 16 ∧ v = .int .i64 (k : Int) ∧ Hd (okTo p k) ∧ Hd (Below w.heap.size w wr)) (fun v _ => 16 - (intOf v).toNat)
  case atStart => exact ⟨0, by omega, rfl, ⟨fun i hi => by omega⟩, ⟨(Below.refl _ _).alloc (Nat.le_refl _) _⟩⟩
  case round =>
    obtain ⟨k, hk, rfl, HO, HB⟩ := hrel
    by_cases hlt : k < 16
    · have h1 := run_ix25 wr p.cell k hlt
      have q1 : (k : Int) < 16 := by omega
      go_wp2_with fail
      refine (validCell24 (p.cell k) _).mono ?_
      rintro e w1 ⟨rfl, hb⟩
      have HB1 := Hd.mk ((HB.out.alloc HB.out.size (.cells #[.bool (p.cell k).set, .string (p.cell k).data] 24)).trans (hb.mono (Nat.le_trans HB.out.size (by simp))))
      clear hb HB h1
      cases hv : clOk (p.cell k) with
      | true =>
        go_wp2_with fail
        go_roundw
        case rel => exact ⟨k + 1, by omega, by go_num, ⟨fun i hi => by
          by_cases h : i < k
          · exact HO.out i h
          · obtain rfl : i = k := by omega
            exact hv⟩, HB1⟩
        case measure => simp [intOf]; omega
      | false =>
        go_wp2_with fail
        go_ret
        refine ⟨?_, HB1.out⟩
        have : okB p = false := by
          cases h : okB p with
          | false => rfl
          | true => rw [(okB_of p).1 h k hlt] at hv; cases hv
        rw [this]; rfl
    · obtain rfl : k = 16 := by omega
      go_wp2_with fail
      go_ret
      refine ⟨?_, HB.out⟩
      rw [(okB_of p).2 HO.out]; rfl

/-! ### change.Diff -/
def flatL (L : List Ch) : List Value := L.flatMap ch6
theorem flatL_snoc (L : List Ch) (x : Ch) : flatL (L ++ [x]) = flatL L ++ ch6 x := by simp [flatL]
def dl (p q : Pg) : Nat → List Ch
  | 0 => []
  | n + 1 => if clEq (p.cell n) (q.cell n) = true then dl p q n else dl p q n ++ [⟨p.id, (n : Int), p.cell n, q.cell n⟩]
theorem dl_len (p q : Pg) (n : Nat) : (dl p q n).length ≤ n := by
  induction n with
  | zero => simp [dl]
  | succ n ih =>
    unfold dl
    split
    · omega
    · simp; omega
theorem dl_nil_to {p q : Pg} (n : Nat) (h : ∀ i, i < n → clEq (p.cell i) (q.cell i) = true) : dl p q n = [] := by
  induction n with
  | zero => rfl
  | succ n ih =>
    unfold dl
    rw [if_pos (h n (by omega))]
    exact ih (fun i hi => h i (by omega))
theorem dl_nil {p q : Pg} (h : clsEq p.cell q.cell = true) : dl p q 16 = [] := dl_nil_to 16 (by simpa [clsEq, List.all_eq_true] using h)
theorem dl_same {p q : Pg} {n : Nat} (h : clEq (p.cell n) (q.cell n) = true) : dl p q (n + 1) = dl p q n := by simp [dl, h]
theorem dl_more {p q : Pg} {n : Nat} (h : clEq (p.cell n) (q.cell n) = false) : dl p q (n + 1) = dl p q n ++ [⟨p.id, (n : Int), p.cell n, q.cell n⟩] := by simp [dl, h]
def diffF (p q : Pg) : List Ch × Int :=
  if p.id ≠ q.id then ([], 6) else if pagedB p.id = false then ([], 1) else if okB p = false ∨ okB q = false then ([], 22) else (dl p q 16, 0)
def SomeRow (d : List Ch × Int) (w : World) (e : Ending) (w' : World) : Prop :=
  ∃ v, e = .returned (.tuple #[v, .int .i64 d.2]) ∧ w'.ownsRow w.heap.size 29 6 v d.1.length (flatL d.1) ∧ Below w.heap.size w w'
theorem own_mono {w : World} {b b' : Nat} {e : TypeId} {size : Nat} {v : Value} {n : Nat} {xs : List Value} (h : w.ownsRow b e size v n xs) (hb : b' ≤ b) : w.ownsRow b' e size v n xs := by
  refine ⟨h.1, ?_⟩
  rcases h.2 with hn | ⟨g, cap, cur, rfl, hb', rest⟩
  · exact .inl hn
  · exact .inr ⟨g, cap, cur, rfl, Nat.le_trans hb hb', rest⟩
theorem Pre.grown {B : Nat} {w0 w w' : World} {l : Ents} {row : Option Nat} (h : Pre B w0 l w) (hg : w.grownBy w' row) (hr : ∀ k, row = some k → B ≤ k ∧ ∀ x ∈ l, x.1 ≠ k) : Pre B w0 l w' := by
  have hBw := h.hBw
  refine ⟨h.below.trans ⟨hg.os, hg.tape, hg.output, hg.size, fun k hk => hg.block k (by omega) (fun e => by have := (hr k e.symm).1; omega)⟩, h.hB, fun x hx => ⟨(h.mem x hx).1, ?_⟩⟩
  rw [hg.block x.1 (h.lt hx) (fun e => (hr x.1 e.symm).2 x hx rfl)]
  exact (h.mem x hx).2
theorem Pre.cellsAt {B : Nat} {w0 w : World} {l : Ents} (h : Pre B w0 l w) (g : Nat) (arr : Array Value) (t : TypeId) (hm : (g, arr, t) ∈ l) : (∀ o, w.cell? ⟨g, o, none⟩ = arr[o]?) ∧ (∀ o, w.frozen? ⟨g, o, none⟩ = false) :=
  ⟨(blk (h.mem _ hm).2).2.2.1, (blk (h.mem _ hm).2).2.2.2.1⟩
theorem Pre.drew {B : Nat} {w0 w : World} {l : Ents} (h : Pre B w0 l w) : Pre B w0 l w.drew := h.step (Below.refl _ _).drew
theorem Pre.alloc' {B : Nat} {w0 w : World} {l : Ents} (h : Pre B w0 l w) (o : Obj) : Pre B w0 l (w.alloc o) := h.step ((Below.refl _ _).alloc (Nat.le_refl _) _)
theorem Pre.allocD {B : Nat} {w0 w : World} {l : Ents} (h : Pre B w0 l w) (o : Obj) : Pre B w0 l (w.alloc o).drew := (h.alloc' o).drew

set_option maxHeartbeats 2000000 in
theorem diff31_ok (p q : Pg) (w : World) (h1 : p.id = q.id) (h2 : pagedB p.id = true) (h3 : okB p = true) (h4 : okB q = true) : Calls Try.prog 31 #[.agg (pgA p), .agg (pgA q)] w (SomeRow (dl p q 16, 0) w) := by
  have e1 : (p.id != q.id) = false := by simp [h1]
  have H1 := Hd.mk h1
  clear h1
  go_enter Try.func31, Try.ntmps31
  go_wp2_with fail
  refine (paged_any p.id _).mono ?_
  rintro e w1 ⟨rfl, rfl⟩
  rw [h2]
  have HP := Hd.mk (((Pre.nil w).alloc (pgA p) 27 w.heap.size rfl).alloc (pgA q) 27 (w.heap.size + 1) (by simp))
  obtain ⟨a1, a2, a3, a4⟩ := HP.out.at w.heap.size (pgA p) 27 (by simp)
  go_wp2_with fail
  refine (right48 p _).mono ?_
  rintro e w2 ⟨rfl, hb⟩
  rw [h3]
  have S := HP.out.step hb
  clear HP hb a1 a2 a3 a4
  obtain ⟨a1, a2, a3, a4⟩ := S.at (w.heap.size + 1) (pgA q) 27 (by simp)
  have HP := Hd.mk S
  clear S
  go_wp2_with fail
  refine (right48 q _).mono ?_
  rintro e w3 ⟨rfl, hb⟩
  rw [h4]
  have S := HP.out.step hb
  clear HP hb a1 a2 a3 a4
  obtain ⟨a1, a2, a3, a4⟩ := S.at (w.heap.size + 1) (pgA q) 27 (by simp)
  obtain ⟨b1, b2, b3, b4⟩ := S.at (w.heap.size) (pgA p) 27 (by simp)
  have l1 := run_ld25 w3 w.heap.size p b1
  have l2 := run_ld25 w3 (w.heap.size + 1) q a1
  have HP := Hd.mk S
  clear S
  clear h2 h3 h4
  cases hcl : clsEq p.cell q.cell with
  | true =>
    go_wp2_with fail
    refine bodyPost_ret (v := .tuple #[.slice none 0 0, .int .i64 0]) (by simp [results, Try.results31, go_sem]) rfl ⟨.slice none 0 0, rfl, ?_, HP.out.below⟩
    simp only [dl_nil hcl]
    exact World.ownsRow_nil _ _ _ _
  | false =>
    go_wp2_with fail
    clear a1 a2 a3 a4 b1 b2 b3 b4 l1 l2 e1 hcl
    obtain ⟨i0, hi, hz0, hz1, hz2⟩ := info_parts info29r
    have HI := Hd.mk (And.intro hi (And.intro hz0 (And.intro hz1 hz2)))
    clear hi hz0 hz1 hz2
    go_loopw [6, 37] (fun v i wr => ∃ k : Nat, k ≤ 16 ∧ i = .int .i64 (k : Int) ∧ Hd (wr.ownsRow (w.heap.size + 2) 29 6 v (dl p q k).length (flatL (dl p q k))) ∧ Hd (Pre w.heap.size w [(w.heap.size + 1, pgA q, 27), (w.heap.size, pgA p, 27)] wr)) (fun _ i _ => 16 - (intOf i).toNat)
    case atStart => exact ⟨0, by omega, rfl, ⟨World.ownsRow_nil _ _ _ _⟩, HP⟩
    case round =>
      clear HP
      obtain ⟨k, hk, rfl, HO, HP⟩ := hrel
      by_cases hlt : k < 16
      · have h1 := run_ix25 wr p.cell k hlt
        have q1 : (k : Int) < 16 := by omega
        have q2 : (0 : Int) ≤ k := by omega
        have hBs := HP.out.lt (x := (w.heap.size + 1, pgA q, 27)) (by simp)
        have HP8 := Hd.mk (HP.out.alloc #[.bool (p.cell k).set, .string (p.cell k).data] 24 wr.heap.size rfl)
        have t1 := pgA_s q k hlt
        have t2 := pgA_d q k hlt
        have hw : ∀ W : World, Pre w.heap.size w [(wr.heap.size, #[.bool (p.cell k).set, .string (p.cell k).data], 24), (w.heap.size + 1, pgA q, 27), (w.heap.size, pgA p, 27)] W → Hd (Pre w.heap.size w [(wr.heap.size, #[.bool (p.cell k).set, .string (p.cell k).data], 24), (w.heap.size + 1, pgA q, 27), (w.heap.size, pgA p, 27)] W) ∧ (∀ o, W.cell? ⟨wr.heap.size, o, none⟩ = (#[.bool (p.cell k).set, .string (p.cell k).data] : Array Value)[o]?) ∧ (∀ o, W.cell? ⟨w.heap.size + 1, o, none⟩ = (pgA q)[o]?) ∧ (∀ o, W.cell? ⟨w.heap.size, o, none⟩ = (pgA p)[o]?) :=
          fun W hW => ⟨⟨hW⟩, (hW.cellsAt wr.heap.size #[.bool (p.cell k).set, .string (p.cell k).data] 24 (by simp)).1, (hW.cellsAt (w.heap.size + 1) (pgA q) 27 (by simp)).1, (hW.cellsAt w.heap.size (pgA p) 27 (by simp)).1⟩
        have c1 := (HP8.out.cellsAt wr.heap.size #[.bool (p.cell k).set, .string (p.cell k).data] 24 (by simp)).1
        have c2 := (HP8.out.cellsAt (w.heap.size + 1) (pgA q) 27 (by simp)).1
        have HW := Hd.mk hw
        clear hw
        dsimp only at hBs
        go_wp2_with fail
        go_region_held3 (fun W => Hd (Pre w.heap.size w [(wr.heap.size, #[.bool (p.cell k).set, .string (p.cell k).data], 24), (w.heap.size + 1, pgA q, 27), (w.heap.size, pgA p, 27)] W) ∧ (∀ o, W.cell? ⟨wr.heap.size, o, none⟩ = (#[.bool (p.cell k).set, .string (p.cell k).data] : Array Value)[o]?) ∧ (∀ o, W.cell? ⟨w.heap.size + 1, o, none⟩ = (pgA q)[o]?) ∧ (∀ o, W.cell? ⟨w.heap.size, o, none⟩ = (pgA p)[o]?)) (first | exact HW.out _ HP8.out | exact HW.out _ HP8.out.drew) (fail)
        have HP9 := Hd.mk HP8.out.drew
        have HO9 : Hd (World.ownsRow ((wr.alloc (.cells #[.bool (p.cell k).set, .string (p.cell k).data] 24)).drew) (w.heap.size + 2) 29 6 u6 (dl p q k).length (flatL (dl p q k))) := ⟨own_blk HO.out (fun k h1 h2 => by show (wr.alloc _).heap[k]? = _; rw [heap_alloc_if, if_neg (by omega)])⟩
        have HR : Hd (∀ kb, u6.ownBlock = some kb → w.heap.size ≤ kb ∧ ∀ x ∈ ([(wr.heap.size, #[.bool (p.cell k).set, .string (p.cell k).data], 24), (w.heap.size + 1, pgA q, 27), (w.heap.size, pgA p, 27)] : Ents), x.1 ≠ kb) := ⟨fun kb hk => ⟨by have := (HO.out.lt kb hk).1; omega, fun x hx => by
          have h1 := (HO.out.lt kb hk).1
          have h2 := (HO.out.lt kb hk).2
          simp at hx
          rcases hx with rfl | rfl | rfl <;> dsimp only <;> omega⟩⟩
        have hlen := dl_len p q k
        clear HP8 HP c1 c2 h1 HO
        generalize hwx : (wr.alloc (.cells #[.bool (p.cell k).set, .string (p.cell k).data] 24)).drew = wx at HP9 HO9 ⊢
        clear hwx
        have hB2 : w.heap.size + 2 ≤ wx.heap.size := HP9.out.lt (x := (w.heap.size + 1, pgA q, 27)) (by simp)
        cases hc : clEq (p.cell k) (q.cell k) with
        | true =>
          go_wp2_with fail
          go_roundw
          case rel => exact ⟨k + 1, by omega, by go_num, ⟨by rw [dl_same hc]; exact HO9.out⟩, ⟨HP9.out.sub (fun x hx => List.mem_cons_of_mem _ hx)⟩⟩
          case measure => simp [intOf]; omega
        | false =>
          go_wp2_with fail
          go_region_held3 (fun W => Hd (Pre w.heap.size w [(wr.heap.size, #[.bool (p.cell k).set, .string (p.cell k).data], 24), (w.heap.size + 1, pgA q, 27), (w.heap.size, pgA p, 27)] W) ∧ (∀ o, W.cell? ⟨wr.heap.size, o, none⟩ = (#[.bool (p.cell k).set, .string (p.cell k).data] : Array Value)[o]?) ∧ (∀ o, W.cell? ⟨w.heap.size + 1, o, none⟩ = (pgA q)[o]?) ∧ (∀ o, W.cell? ⟨w.heap.size, o, none⟩ = (pgA p)[o]?)) (first | exact HW.out _ HP9.out | exact HW.out _ HP9.out.drew | exact HW.out _ (HP9.out.allocD _) | exact HW.out _ HP10.out)
            ((refine step_append_lies _ (by rfl) _ _ 50 (by rfl) (w.heap.size + 2) 29 i0 (.agg #[.int .i64 0, .int .i64 0, .bool false, .string ⟨#[]⟩, .bool false, .string ⟨#[]⟩]) 6 64 Try.underlying50 HI.out.1 HI.out.2.1 HI.out.2.2.1 HI.out.2.2.2 rfl (by decide) u6 (dl p q k).length (flatL (dl p q k)) (by rfl) (HO9.out.alloc _) ⟨wx.heap.size, 0, none⟩ 1 1 (ch6 ⟨p.id, (k : Int), p.cell k, q.cell k⟩) (by rfl) (by rfl) (World.news_of_block (heap_alloc_new wx _)) (by simp [ch6, Value.oneCell']) (by decide) (by unfold maxLen; omega) (by omega) (Nat.le_trans hB2 (by simp)) _ rfl ?_; intro g cap' w8 hown hgrow hat hlt2; have HP10 := Hd.mk ((HP9.out.allocD _).grown hgrow HR.out)))
          go_wp2_with fail
          go_roundw
          case rel => exact ⟨k + 1, by omega, by go_num, ⟨by rw [dl_more hc, flatL_snoc, List.length_append]; exact hown⟩, ⟨HP10.out.sub (fun x hx => List.mem_cons_of_mem _ hx)⟩⟩
          case measure => simp [intOf]; omega
      · obtain rfl : k = 16 := by omega
        go_wp2_with fail
        refine bodyPost_ret (v := .tuple #[u6, .int .i64 0]) (by simp [results, Try.results31, go_sem]) rfl ⟨u6, rfl, own_mono HO.out (by omega), HP.out.below⟩

/-! the ways on which Diff refuses -/
set_option maxHeartbeats 1000000 in
theorem diff31_id (p q : Pg) (w : World) (h1 : p.id ≠ q.id) : Calls Try.prog 31 #[.agg (pgA p), .agg (pgA q)] w (SomeRow ([], 6) w) := by
  have e1 : (p.id != q.id) = true := by simp [h1]
  clear h1
  go_enter Try.func31, Try.ntmps31
  go_wp2_with fail
  refine bodyPost_ret (v := .tuple #[.slice none 0 0, .int .i64 6]) (by simp [results, Try.results31, go_sem]) rfl ⟨.slice none 0 0, rfl, World.ownsRow_nil _ _ _ _, (((Pre.nil w).alloc (pgA p) 27 w.heap.size rfl).alloc (pgA q) 27 (w.heap.size + 1) (by simp)).below⟩
set_option maxHeartbeats 1000000 in
theorem diff31_pg (p q : Pg) (w : World) (h1 : p.id = q.id) (h2 : pagedB p.id = false) : Calls Try.prog 31 #[.agg (pgA p), .agg (pgA q)] w (SomeRow ([], 1) w) := by
  have e1 : (p.id != q.id) = false := by simp [h1]
  clear h1
  go_enter Try.func31, Try.ntmps31
  go_wp2_with fail
  refine (paged_any p.id _).mono ?_
  rintro e w1 ⟨rfl, rfl⟩
  rw [h2]
  go_wp2_with fail
  refine bodyPost_ret (v := .tuple #[.slice none 0 0, .int .i64 1]) (by simp [results, Try.results31, go_sem]) rfl ⟨.slice none 0 0, rfl, World.ownsRow_nil _ _ _ _, (((Pre.nil w).alloc (pgA p) 27 w.heap.size rfl).alloc (pgA q) 27 (w.heap.size + 1) (by simp)).below⟩
set_option maxHeartbeats 1000000 in
theorem diff31_p (p q : Pg) (w : World) (h1 : p.id = q.id) (h2 : pagedB p.id = true) (h3 : okB p = false) : Calls Try.prog 31 #[.agg (pgA p), .agg (pgA q)] w (SomeRow ([], 22) w) := by
  have e1 : (p.id != q.id) = false := by simp [h1]
  clear h1
  go_enter Try.func31, Try.ntmps31
  go_wp2_with fail
  refine (paged_any p.id _).mono ?_
  rintro e w1 ⟨rfl, rfl⟩
  rw [h2]
  have HP := Hd.mk (((Pre.nil w).alloc (pgA p) 27 w.heap.size rfl).alloc (pgA q) 27 (w.heap.size + 1) (by simp))
  obtain ⟨a1, a2, a3, a4⟩ := HP.out.at w.heap.size (pgA p) 27 (by simp)
  go_wp2_with fail
  refine (right48 p _).mono ?_
  rintro e w2 ⟨rfl, hb⟩
  rw [h3]
  have S := HP.out.step hb
  clear HP hb a1 a2 a3 a4
  obtain ⟨a1, a2, a3, a4⟩ := S.at (w.heap.size + 1) (pgA q) 27 (by simp)
  have HP := Hd.mk S
  clear S
  go_wp2_with fail
  refine bodyPost_ret (v := .tuple #[.slice none 0 0, .int .i64 22]) (by simp [results, Try.results31, go_sem]) rfl ⟨.slice none 0 0, rfl, World.ownsRow_nil _ _ _ _, HP.out.below⟩
set_option maxHeartbeats 1000000 in
theorem diff31_q (p q : Pg) (w : World) (h1 : p.id = q.id) (h2 : pagedB p.id = true) (h3 : okB p = true) (h4 : okB q = false) : Calls Try.prog 31 #[.agg (pgA p), .agg (pgA q)] w (SomeRow ([], 22) w) := by
  have e1 : (p.id != q.id) = false := by simp [h1]
  clear h1
  go_enter Try.func31, Try.ntmps31
  go_wp2_with fail
  refine (paged_any p.id _).mono ?_
  rintro e w1 ⟨rfl, rfl⟩
  rw [h2]
  have HP := Hd.mk (((Pre.nil w).alloc (pgA p) 27 w.heap.size rfl).alloc (pgA q) 27 (w.heap.size + 1) (by simp))
  obtain ⟨a1, a2, a3, a4⟩ := HP.out.at w.heap.size (pgA p) 27 (by simp)
  go_wp2_with fail
  refine (right48 p _).mono ?_
  rintro e w2 ⟨rfl, hb⟩
  rw [h3]
  have S := HP.out.step hb
  clear HP hb a1 a2 a3 a4
  obtain ⟨a1, a2, a3, a4⟩ := S.at (w.heap.size + 1) (pgA q) 27 (by simp)
  have HP := Hd.mk S
  clear S
  go_wp2_with fail
  refine (right48 q _).mono ?_
  rintro e w3 ⟨rfl, hb⟩
  rw [h4]
  have S := HP.out.step hb
  clear HP hb a1 a2 a3 a4
  go_wp2_with fail
  refine bodyPost_ret (v := .tuple #[.slice none 0 0, .int .i64 22]) (by simp [results, Try.results31, go_sem]) rfl ⟨.slice none 0 0, rfl, World.ownsRow_nil _ _ _ _, S.below⟩
theorem diff31 (p q : Pg) (w : World) : Calls Try.prog 31 #[.agg (pgA p), .agg (pgA q)] w (SomeRow (diffF p q) w) := by
  unfold diffF
  by_cases h1 : p.id = q.id
  case neg => rw [if_pos h1]; exact diff31_id p q w h1
  rw [if_neg (by simp [h1])]
  cases h2 : pagedB p.id with
  | false => rw [if_pos rfl]; exact diff31_pg p q w h1 h2
  | true =>
    rw [if_neg (by simp)]
    cases h3 : okB p with
    | false => rw [if_pos (.inl rfl)]; exact diff31_p p q w h1 h2 h3
    | true =>
      cases h4 : okB q with
      | false => rw [if_pos (.inr rfl)]; exact diff31_q p q w h1 h2 h3 h4
      | true => rw [if_neg (by simp)]; exact diff31_ok p q w h1 h2 h3 h4

/-! ### the reference Diff -/
set_option maxHeartbeats 2000000 in
theorem diff32_id (p q : Pg) (w : World) (h1 : p.id ≠ q.id) : Calls Try.prog 32 #[.agg (pgA p), .agg (pgA q)] w (SomeRow ([], 6) w) := by
  have e1 : (p.id != q.id) = true := by simp [h1]
  clear h1
  go_enter Try.func32, Try.ntmps32
  go_wp2_with fail
  refine bodyPost_ret (v := .tuple #[.slice none 0 0, .int .i64 6]) (by simp [results, Try.results32, go_sem]) rfl ⟨.slice none 0 0, rfl, World.ownsRow_nil _ _ _ _, (((Pre.nil w).alloc (pgA p) 27 w.heap.size rfl).alloc (pgA q) 27 (w.heap.size + 1) (by simp)).below⟩
set_option maxHeartbeats 2000000 in
theorem diff32_pg (p q : Pg) (w : World) (h1 : p.id = q.id) (h2 : pagedB p.id = false) : Calls Try.prog 32 #[.agg (pgA p), .agg (pgA q)] w (SomeRow ([], 1) w) := by
  have e1 : (p.id != q.id) = false := by simp [h1]
  clear h1
  by_cases h3 : p.id < 0
  · clear h2
    go_enter Try.func32, Try.ntmps32
    go_wp2_with fail
    refine bodyPost_ret (v := .tuple #[.slice none 0 0, .int .i64 1]) (by simp [results, Try.results32, go_sem]) rfl ⟨.slice none 0 0, rfl, World.ownsRow_nil _ _ _ _, (((Pre.nil w).alloc (pgA p) 27 w.heap.size rfl).alloc (pgA q) 27 (w.heap.size + 1) (by simp)).below⟩
  · have h4 : (64 : Int) ≤ p.id := by simp [pagedB] at h2; omega
    clear h2
    go_enter Try.func32, Try.ntmps32
    go_wp2_with fail
    refine bodyPost_ret (v := .tuple #[.slice none 0 0, .int .i64 1]) (by simp [results, Try.results32, go_sem]) rfl ⟨.slice none 0 0, rfl, World.ownsRow_nil _ _ _ _, (((Pre.nil w).alloc (pgA p) 27 w.heap.size rfl).alloc (pgA q) 27 (w.heap.size + 1) (by simp)).below⟩
theorem okTo_succ {p : Pg} {k : Nat} (h : okTo p k) (hv : clOk (p.cell k) = true) : okTo p (k + 1) := fun i hi => by
  by_cases h' : i < k
  · exact h i h'
  · obtain rfl : i = k := by omega
    exact hv
theorem okB_no {p : Pg} {k : Nat} (hk : k < 16) (hv : clOk (p.cell k) = false) : okB p = false := by
  cases h : okB p with
  | false => rfl
  | true => rw [(okB_of p).1 h k hk] at hv; cases hv
set_option maxHeartbeats 2000000 in
theorem diff32_rest (p q : Pg) (w : World) (h1 : p.id = q.id) (h2 : pagedB p.id = true) (d : List Ch × Int) (hd1 : okB p = false ∨ okB q = false → d = ([], 22)) (hd2 : okB p = true → okB q = true → d = (dl p q 16, 0)) : Calls Try.prog 32 #[.agg (pgA p), .agg (pgA q)] w (SomeRow d w) := by
  have HD := Hd.mk (And.intro hd1 hd2)
  clear hd1 hd2
  have e1 : (p.id != q.id) = false := by simp [h1]
  have H1 := Hd.mk h1
  have e2 : ¬ p.id < 0 := by simp [pagedB] at h2; omega
  have e3 : p.id < 64 := by simp [pagedB] at h2; omega
  have e4 : 0 ≤ p.id := by omega
  clear h1 h2
  go_enter Try.func32, Try.ntmps32
  go_wp2_with fail
  have HP := Hd.mk (((Pre.nil w).alloc (pgA p) 27 w.heap.size rfl).alloc (pgA q) 27 (w.heap.size + 1) (by simp))
  clear e1 e2 e3 e4
  obtain ⟨i0, hi, hz0, hz1, hz2⟩ := info_parts info29r
  have HI := Hd.mk (And.intro hi (And.intro hz0 (And.intro hz1 hz2)))
  clear hi hz0 hz1 hz2
  go_loopw [6, 7] (fun v i wr => ∃ k : Nat, k ≤ 16 ∧ i = .int .i64 (k : Int) ∧ Hd (okTo p k ∧ okTo q k) ∧ Hd (wr.ownsRow (w.heap.size + 2) 29 6 v (dl p q k).length (flatL (dl p q k))) ∧ Hd (Pre w.heap.size w [(w.heap.size + 1, pgA q, 27), (w.heap.size, pgA p, 27)] wr)) (fun _ i _ => 16 - (intOf i).toNat)
  case atStart => exact ⟨0, by omega, rfl, ⟨fun i hi => by omega, fun i hi => by omega⟩, ⟨World.ownsRow_nil _ _ _ _⟩, HP⟩
  case round =>
    clear HP
    obtain ⟨k, hk, rfl, HK, HO, HP⟩ := hrel
    by_cases hlt : k < 16
    · have q1 : (k : Int) < 16 := by omega
      have q2 : (0 : Int) ≤ k := by omega
      have t1 := pgA_s q k hlt
      have t2 := pgA_d q k hlt
      have t3 := pgA_s p k hlt
      have t4 := pgA_d p k hlt
      have c1 := (HP.out.cellsAt (w.heap.size) (pgA p) 27 (by simp)).1
      have hw : ∀ W : World, Pre w.heap.size w [(w.heap.size + 1, pgA q, 27), (w.heap.size, pgA p, 27)] W → Hd (Pre w.heap.size w [(w.heap.size + 1, pgA q, 27), (w.heap.size, pgA p, 27)] W) ∧ (∀ o, W.cell? ⟨w.heap.size + 1, o, none⟩ = (pgA q)[o]?) ∧ (∀ o, W.cell? ⟨w.heap.size, o, none⟩ = (pgA p)[o]?) :=
        fun W hW => ⟨⟨hW⟩, (hW.cellsAt (w.heap.size + 1) (pgA q) 27 (by simp)).1, (hW.cellsAt w.heap.size (pgA p) 27 (by simp)).1⟩
      have HW := Hd.mk hw
      clear hw
      go_wp2_with fail
      refine (validCell25 (p.cell k) _).mono ?_
      rintro e w1 ⟨rfl, hb⟩
      have S := HP.out.step hb
      cases hv : clOk (p.cell k) with
      | false =>
        clear c1 t1 t2 t3 t4
        obtain rfl := HD.out.1 (.inl (okB_no hlt hv))
        clear HP
        go_wp2_with fail
        refine bodyPost_ret (v := .tuple #[.slice none 0 0, .int .i64 22]) (by simp [results, Try.results32, go_sem]) rfl ⟨.slice none 0 0, rfl, World.ownsRow_nil _ _ _ _, S.below⟩
      | true =>
        clear c1
        have c1 := (S.cellsAt (w.heap.size + 1) (pgA q) 27 (by simp)).1
        have HO1 : Hd (w1.ownsRow (w.heap.size + 2) 29 6 u6 (dl p q k).length (flatL (dl p q k))) := ⟨own_blk HO.out (fun k h1 h2 => hb.block k h2)⟩
        have HP1 := Hd.mk S
        clear S HP HO hb
        go_wp2_with fail
        refine (validCell25 (q.cell k) _).mono ?_
        rintro e w2 ⟨rfl, hb⟩
        have S := HP1.out.step hb
        cases hv2 : clOk (q.cell k) with
        | false =>
          clear c1 t1 t2 t3 t4
          obtain rfl := HD.out.1 (.inr (okB_no hlt hv2))
          clear HP1
          go_wp2_with fail
          refine bodyPost_ret (v := .tuple #[.slice none 0 0, .int .i64 22]) (by simp [results, Try.results32, go_sem]) rfl ⟨.slice none 0 0, rfl, World.ownsRow_nil _ _ _ _, S.below⟩
        | true =>
          clear c1
          have c1 := (S.cellsAt (w.heap.size + 1) (pgA q) 27 (by simp)).1
          have c2 := (S.cellsAt (w.heap.size) (pgA p) 27 (by simp)).1
          have HO2 : Hd (w2.ownsRow (w.heap.size + 2) 29 6 u6 (dl p q k).length (flatL (dl p q k))) := ⟨own_blk HO1.out (fun k h1 h2 => hb.block k h2)⟩
          have HP2 := Hd.mk S
          clear S HP1 HO1 hb
          go_wp2_with fail
          go_region_held3 (fun W => Hd (Pre w.heap.size w [(w.heap.size + 1, pgA q, 27), (w.heap.size, pgA p, 27)] W) ∧ (∀ o, W.cell? ⟨w.heap.size + 1, o, none⟩ = (pgA q)[o]?) ∧ (∀ o, W.cell? ⟨w.heap.size, o, none⟩ = (pgA p)[o]?)) (first | exact HW.out _ HP2.out | exact HW.out _ HP2.out.drew) (fail)
          have HP9 := Hd.mk HP2.out.drew
          have HO9 : Hd (World.ownsRow (w2.drew) (w.heap.size + 2) 29 6 u6 (dl p q k).length (flatL (dl p q k))) := ⟨own_blk HO2.out (fun k h1 h2 => rfl)⟩
          have HR : Hd (∀ kb, u6.ownBlock = some kb → w.heap.size ≤ kb ∧ ∀ x ∈ ([(w.heap.size + 1, pgA q, 27), (w.heap.size, pgA p, 27)] : Ents), x.1 ≠ kb) := ⟨fun kb hk => ⟨by have := (HO2.out.lt kb hk).1; omega, fun x hx => by
            have h1 := (HO2.out.lt kb hk).1
            simp at hx
            rcases hx with rfl | rfl <;> dsimp only <;> omega⟩⟩
          have hlen := dl_len p q k
          clear HP2 HO2 c1 c2
          generalize hwx : w2.drew = wx at HP9 HO9 ⊢
          clear hwx
          have hB2 : w.heap.size + 2 ≤ wx.heap.size := HP9.out.lt (x := (w.heap.size + 1, pgA q, 27)) (by simp)
          cases hc : clEq (p.cell k) (q.cell k) with
          | true =>
            go_wp2_with fail
            go_roundw
            case rel => exact ⟨k + 1, by omega, by go_num, ⟨okTo_succ HK.out.1 hv, okTo_succ HK.out.2 hv2⟩, ⟨by rw [dl_same hc]; exact HO9.out⟩, HP9⟩
            case measure => simp [intOf]; omega
          | false =>
            go_wp2_with fail
            go_region_held3 (fun W => Hd (Pre w.heap.size w [(w.heap.size + 1, pgA q, 27), (w.heap.size, pgA p, 27)] W) ∧ (∀ o, W.cell? ⟨w.heap.size + 1, o, none⟩ = (pgA q)[o]?) ∧ (∀ o, W.cell? ⟨w.heap.size, o, none⟩ = (pgA p)[o]?)) (first | exact HW.out _ HP9.out | exact HW.out _ HP9.out.drew | exact HW.out _ (HP9.out.allocD _) | exact HW.out _ HP10.out)
              ((refine step_append_lies _ (by rfl) _ _ 50 (by rfl) (w.heap.size + 2) 29 i0 (.agg #[.int .i64 0, .int .i64 0, .bool false, .string ⟨#[]⟩, .bool false, .string ⟨#[]⟩]) 6 64 Try.underlying50 HI.out.1 HI.out.2.1 HI.out.2.2.1 HI.out.2.2.2 rfl (by decide) u6 (dl p q k).length (flatL (dl p q k)) (by rfl) (HO9.out.alloc _) ⟨wx.heap.size, 0, none⟩ 1 1 (ch6 ⟨p.id, (k : Int), p.cell k, q.cell k⟩) (by rfl) (by rfl) (World.news_of_block (heap_alloc_new wx _)) (by simp [ch6, Value.oneCell']) (by decide) (by unfold maxLen; omega) (by omega) (Nat.le_trans hB2 (by simp)) _ rfl ?_; intro g cap' w8 hown hgrow hat hlt2; have HP10 := Hd.mk ((HP9.out.allocD _).grown hgrow HR.out)))
            go_wp2_with fail
            go_roundw
            case rel => exact ⟨k + 1, by omega, by go_num, ⟨okTo_succ HK.out.1 hv, okTo_succ HK.out.2 hv2⟩, ⟨by rw [dl_more hc, flatL_snoc, List.length_append]; exact hown⟩, HP10⟩
            case measure => simp [intOf]; omega
    · obtain rfl : k = 16 := by omega
      obtain rfl := HD.out.2 ((okB_of p).2 HK.out.1) ((okB_of q).2 HK.out.2)
      go_wp2_with fail
      refine bodyPost_ret (v := .tuple #[u6, .int .i64 0]) (by simp [results, Try.results32, go_sem]) rfl ⟨u6, rfl, own_mono HO.out (by omega), HP.out.below⟩

theorem diff32 (p q : Pg) (w : World) : Calls Try.prog 32 #[.agg (pgA p), .agg (pgA q)] w (SomeRow (diffF p q) w) := by
  unfold diffF
  by_cases h1 : p.id = q.id
  case neg => rw [if_pos h1]; exact diff32_id p q w h1
  rw [if_neg (by simp [h1])]
  cases h2 : pagedB p.id with
  | false => rw [if_pos rfl]; exact diff32_pg p q w h1 h2
  | true =>
    rw [if_neg (by simp)]
    exact diff32_rest p q w h1 h2 _ (fun h => if_pos h) (fun h3 h4 => if_neg (by simp [h3, h4]))
end Go.Proofs.Ytiebdcejlkeoiaa
