import Derived.Test.YtcjmejokgoefkaaGreatW29
namespace Go.Proofs.YtcjmejokgoefkaaGreat
open Go.RowKit
set_option linter.unusedSimpArgs false
set_option linter.unusedVariables false
/-- A difference: the page, the slot, and both cells. -/
structure Df where
  id : Nat
  slot : Nat
  want : Cl
  got : Cl
def d6 (x : Df) : List Value := [.int .i64 (x.id : Int), .int .i64 (x.slot : Int), .bool x.want.set, .string x.want.data, .bool x.got.set, .string x.got.data]
def flatD (l : List Df) : List Value := l.flatMap d6
theorem flatD_app (l m : List Df) : flatD (l ++ m) = flatD l ++ flatD m := by simp [flatD]
def dlS (id : Nat) (f g : Nat → Cl) : Nat → List Df
  | 0 => []
  | j + 1 => dlS id f g j ++ (if clEq (f j) (g j) then [] else [⟨id, j, f j, g j⟩])
def dlK (fs gs : List (Nat → Cl)) : Nat → List Df
  | 0 => []
  | k + 1 => dlK fs gs k ++ dlS k (rowL fs k) (rowL gs k) 16
theorem dlS_len (id : Nat) (f g : Nat → Cl) : ∀ j, (dlS id f g j).length ≤ j
  | 0 => by simp [dlS]
  | j + 1 => by
    have := dlS_len id f g j
    unfold dlS
    rw [List.length_append]
    split <;> simp <;> omega
theorem dlK_len (fs gs : List (Nat → Cl)) : ∀ k, (dlK fs gs k).length ≤ 16 * k
  | 0 => by simp [dlK]
  | k + 1 => by
    have := dlK_len fs gs k
    have := dlS_len k (rowL fs k) (rowL gs k) 16
    unfold dlK
    rw [List.length_append]
    omega
theorem dlS_same {id : Nat} {f g : Nat → Cl} {j : Nat} (h : clEq (f j) (g j) = true) : dlS id f g (j + 1) = dlS id f g j := by simp [dlS, h]
theorem dlS_more {id : Nat} {f g : Nat → Cl} {j : Nat} (h : clEq (f j) (g j) = false) : dlS id f g (j + 1) = dlS id f g j ++ [⟨id, j, f j, g j⟩] := by simp [dlS, h]
@[go_sem ↓ high] theorem bop29n (x y : Value) : binOp .neq 29 x y = bop .neq 29 x y := bop_eq _ _ _ _
theorem run_bop29n (w : World) (x y : Cl) : (bop .neq 29 (.agg #[.bool x.set, .string x.data]) (.agg #[.bool y.set, .string y.data])).run Tryz.prog w = .ok (.bool (!clEq x y)) w := by
  rw [← bop_eq, run_neq_struct, eq24 w 9998]; rfl
@[go_sem] theorem run_bop29n' (w : World) (a : Bool) (x : ByteArray) (b : Bool) (y : ByteArray) : (bop .neq 29 (.agg #[.bool a, .string x]) (.agg #[.bool b, .string y])).run Tryz.prog w = .ok (.bool (!clEq ⟨a, x⟩ ⟨b, y⟩)) w := run_bop29n w ⟨a, x⟩ ⟨b, y⟩
theorem info40r : (Tryz.prog.info? 40).map (fun i => (i.zero, i.size, i.bytes)) = some (some (.agg #[.int .i64 0, .int .i64 0, .bool false, .string ⟨#[]⟩, .bool false, .string ⟨#[]⟩]), 6, 64) := by kernel_rfl
def SomeD (d : List Df) (w : World) (e : Ending) (w' : World) : Prop := ∃ v, e = .returned v ∧ w'.ownsRow w.heap.size 40 6 v d.length (flatD d) ∧ Below w.heap.size w w'
theorem Pre.cellsAt {B : Nat} {w0 w : World} {l : Ents} (h : Pre B w0 l w) (g : Nat) (arr : Array Value) (t : TypeId) (hm : (g, arr, t) ∈ l) : (∀ o, w.cell? ⟨g, o, none⟩ = arr[o]?) ∧ (∀ o, w.frozen? ⟨g, o, none⟩ = false) :=
  ⟨(blk (h.mem _ hm).2).2.2.1, (blk (h.mem _ hm).2).2.2.2.1⟩
theorem Pre.drew {B : Nat} {w0 w : World} {l : Ents} (h : Pre B w0 l w) : Pre B w0 l w.drew := h.step (Below.refl _ _).drew
theorem Pre.allocD {B : Nat} {w0 w : World} {l : Ents} (h : Pre B w0 l w) (o : Obj) : Pre B w0 l (w.alloc o).drew := (h.step ((Below.refl _ _).alloc (Nat.le_refl _) _)).drew
theorem Pre.grown {B : Nat} {w0 w w' : World} {l : Ents} {row : Option Nat} (h : Pre B w0 l w) (hg : w.grownBy w' row) (hr : ∀ k, row = some k → B ≤ k ∧ ∀ x ∈ l, x.1 ≠ k) : Pre B w0 l w' := by
  have hBw := h.hBw
  refine ⟨h.below.trans ⟨hg.os, hg.tape, hg.output, hg.size, fun k hk => hg.block k (by omega) (fun e => by have := (hr k e.symm).1; omega)⟩, h.hB, fun x hx => ⟨(h.mem x hx).1, ?_⟩⟩
  rw [hg.block x.1 (h.lt hx) (fun e => (hr x.1 e.symm).2 x hx rfl)]
  exact (h.mem x hx).2
theorem own_blk {w w' : World} {base : Nat} {e : TypeId} {size : Nat} {v : Value} {n : Nat} {xs : List Value} (h : w.ownsRow base e size v n xs) (hk : ∀ k, base ≤ k → k < w.heap.size → w'.heap[k]? = w.heap[k]?) : w'.ownsRow base e size v n xs := by
  refine ⟨h.1, ?_⟩
  rcases h.2 with hn | ⟨g, cap, cur, rfl, hb, hh, rest⟩
  · exact .inl hn
  · exact .inr ⟨g, cap, cur, rfl, hb, (hk g hb (Array.getElem?_eq_some_iff.1 hh).1).trans hh, rest⟩
set_option maxRecDepth 100000 in
set_option maxHeartbeats 8000000 in
theorem diffs9 (fs gs : List (Nat → Cl)) (va vb : Value) (w : World) (ha : RowsAt w va fs) (hb : RowsAt w vb gs) (hfa : fs.length ≤ 10) (hgb : gs.length ≤ 10) :
    Calls Tryz.prog 9 #[va, vb] w (SomeD (dlK fs gs (max fs.length gs.length)) w) := by
  have HA := Hd.mk ha
  have HB := Hd.mk hb
  obtain ⟨aa, ca, rfl, -⟩ := ha.form
  obtain ⟨ab, cb, rfl, -⟩ := hb.form
  clear ha hb
  obtain ⟨i0, hi, hz0, hz1, hz2⟩ := info_parts info40r
  have HI := Hd.mk (And.intro hi (And.intro hz0 (And.intro hz1 hz2)))
  clear hi hz0 hz1 hz2
  go_enter Tryz.func9, Tryz.ntmps9
  go_wp2_with fail
  go_loopw [6, 16] (fun o c wr => ∃ k : Nat, k ≤ max fs.length gs.length ∧ c = .int .i64 (k : Int) ∧ Hd (wr.ownsRow w.heap.size 40 6 o (dlK fs gs k).length (flatD (dlK fs gs k))) ∧ Hd (Below w.heap.size w wr)) (fun _ c _ => max fs.length gs.length - (intOf c).toNat)
  case atStart => exact ⟨0, by omega, rfl, ⟨World.ownsRow_nil _ _ _ _⟩, ⟨Below.refl _ _⟩⟩
  case round =>
    obtain ⟨k, hk, rfl, HO, HL⟩ := hrel
    by_cases hlt : k < max fs.length gs.length
    · have hk10 : k ≤ 10 := by omega
      go_wp2_with fail
      refine (at14 fs _ k _ (HA.out.step HL.out) (by omega) (by omega)).mono ?_
      rintro e w1 ⟨rfl, hb1⟩
      have HL1 := Hd.mk (HL.out.trans (hb1.mono HL.out.size))
      have HO1 := Hd.mk (own_blk HO.out (fun k _ h2 => hb1.block k h2))
      clear hb1 HO HL
      go_wp2_with fail
      refine (at14 gs _ k _ (HB.out.step HL1.out) (by omega) (by omega)).mono ?_
      rintro e w2 ⟨rfl, hb2⟩
      have HP := Hd.mk (((Pre.mk (l := []) (HL1.out.trans (hb2.mono HL1.out.size)) (Nat.le_refl _) (fun _ h => by cases h)).alloc (clA (rowL fs k)) 30 w2.heap.size rfl).alloc (clA (rowL gs k)) 30 (w2.heap.size + 1) (by simp))
      have HO2 := Hd.mk (own_blk (w' := (w2.alloc (.cells (clA (rowL fs k)) 30)).alloc (.cells (clA (rowL gs k)) 30)) (own_blk HO1.out (fun k _ h2 => hb2.block k h2)) (fun k _ h2 => by rw [Below.heap_alloc _ _ _ (by simp; omega), Below.heap_alloc _ _ _ h2]))
      have hz2 : w.heap.size ≤ w2.heap.size := Nat.le_trans HL1.out.size hb2.size
      have HZ : Hd (∀ kb, u6.ownBlock = some kb → w.heap.size ≤ kb ∧ kb < w2.heap.size) := ⟨fun kb hk => by
        have h := HO1.out.lt kb hk
        have h2 := hb2.size
        exact ⟨h.1, by omega⟩⟩
      clear hb2 HO1 HL1
      go_wp2_with fail
      go_loopw [6, 27] (fun o c W => ∃ j : Nat, j ≤ 16 ∧ c = .int .i64 (j : Int) ∧ Hd (W.ownsRow w.heap.size 40 6 o (dlK fs gs k ++ dlS k (rowL fs k) (rowL gs k) j).length (flatD (dlK fs gs k ++ dlS k (rowL fs k) (rowL gs k) j)) ∧ ∀ kb, o.ownBlock = some kb → kb ≠ w2.heap.size ∧ kb ≠ w2.heap.size + 1) ∧ Hd (Pre w.heap.size w [(w2.heap.size + 1, clA (rowL gs k), 30), (w2.heap.size, clA (rowL fs k), 30)] W)) (fun _ c _ => 16 - (intOf c).toNat)
      case atStart => exact ⟨0, by omega, rfl, ⟨by simpa [dlS] using HO2.out, fun kb hk => by have := HZ.out kb hk; omega⟩, HP⟩
      case round =>
        clear HP HO2 HZ
        obtain ⟨j, hj, rfl, HO, HP⟩ := hrel
        by_cases hlj : j < 16
        · have t1 := clA_s (rowL fs k) j hlj
          have t2 := clA_d (rowL fs k) j hlj
          have t3 := clA_s (rowL gs k) j hlj
          have t4 := clA_d (rowL gs k) j hlj
          have q1 : (j : Int) < 16 := by omega
          have q2 : (0 : Int) ≤ j := by omega
          have hw : ∀ W : World, Pre w.heap.size w [(w2.heap.size + 1, clA (rowL gs k), 30), (w2.heap.size, clA (rowL fs k), 30)] W → Hd (Pre w.heap.size w [(w2.heap.size + 1, clA (rowL gs k), 30), (w2.heap.size, clA (rowL fs k), 30)] W) ∧ (∀ o, W.cell? ⟨w2.heap.size, o, none⟩ = (clA (rowL fs k))[o]?) ∧ (∀ o, W.cell? ⟨w2.heap.size + 1, o, none⟩ = (clA (rowL gs k))[o]?) :=
            fun W hW => ⟨⟨hW⟩, (hW.cellsAt w2.heap.size (clA (rowL fs k)) 30 (by simp)).1, (hW.cellsAt (w2.heap.size + 1) (clA (rowL gs k)) 30 (by simp)).1⟩
          obtain ⟨-, c1, c2⟩ := hw _ HP.out
          have HW := Hd.mk hw
          clear hw
          go_wp2_with fail
          go_region_held3 (fun W => Hd (Pre w.heap.size w [(w2.heap.size + 1, clA (rowL gs k), 30), (w2.heap.size, clA (rowL fs k), 30)] W) ∧ (∀ o, W.cell? ⟨w2.heap.size, o, none⟩ = (clA (rowL fs k))[o]?) ∧ (∀ o, W.cell? ⟨w2.heap.size + 1, o, none⟩ = (clA (rowL gs k))[o]?)) (first | exact HW.out _ HP.out | exact HW.out _ HP.out.drew) (fail)
          have HP9 := Hd.mk HP.out.drew
          have HO9 : Hd (World.ownsRow wr.drew w.heap.size 40 6 u6 (dlK fs gs k ++ dlS k (rowL fs k) (rowL gs k) j).length (flatD (dlK fs gs k ++ dlS k (rowL fs k) (rowL gs k) j))) := ⟨HO.out.1⟩
          have HN : Hd (∀ kb, u6.ownBlock = some kb → w.heap.size ≤ kb ∧ ∀ x ∈ ([(w2.heap.size + 1, clA (rowL gs k), 30), (w2.heap.size, clA (rowL fs k), 30)] : Ents), x.1 ≠ kb) := ⟨fun kb hk => ⟨(HO.out.1.lt kb hk).1, fun x hx => by
            have := HO.out.2 kb hk
            simp at hx
            rcases hx with rfl | rfl <;> dsimp only <;> omega⟩⟩
          have HNN := Hd.mk HO.out.2
          have hlen : (dlK fs gs k ++ dlS k (rowL fs k) (rowL gs k) j).length ≤ 400 := by
            have := dlK_len fs gs k
            have := dlS_len k (rowL fs k) (rowL gs k) j
            rw [List.length_append]
            omega
          clear HP c1 c2 HO
          generalize hwx : wr.drew = wx at HP9 HO9 ⊢
          clear hwx
          have hB2 : w2.heap.size + 1 < wx.heap.size := HP9.out.lt (x := (w2.heap.size + 1, clA (rowL gs k), 30)) (by simp)
          obtain ⟨-, c1, c2⟩ := HW.out _ HP9.out
          cases hc : clEq (rowL fs k j) (rowL gs k j) with
          | true =>
            go_wp2_with fail
            go_roundw
            case rel => exact ⟨j + 1, by omega, by go_num, ⟨by rw [dlS_same hc]; exact HO9.out, HNN.out⟩, HP9⟩
            case measure => simp [intOf]; omega
          | false =>
            go_wp2_with fail
            go_region_held3 (fun W => Hd (Pre w.heap.size w [(w2.heap.size + 1, clA (rowL gs k), 30), (w2.heap.size, clA (rowL fs k), 30)] W) ∧ (∀ o, W.cell? ⟨w2.heap.size, o, none⟩ = (clA (rowL fs k))[o]?) ∧ (∀ o, W.cell? ⟨w2.heap.size + 1, o, none⟩ = (clA (rowL gs k))[o]?)) (first | exact HW.out _ HP9.out | exact HW.out _ HP9.out.drew | exact HW.out _ (HP9.out.allocD _) | exact HW.out _ HP10.out)
              ((refine step_append_lies _ (by rfl) _ _ 35 (by rfl) w.heap.size 40 i0 (.agg #[.int .i64 0, .int .i64 0, .bool false, .string ⟨#[]⟩, .bool false, .string ⟨#[]⟩]) 6 64 Tryz.underlying35 HI.out.1 HI.out.2.1 HI.out.2.2.1 HI.out.2.2.2 rfl (by decide) u6 _ _ (by rfl) (HO9.out.alloc _) ⟨wx.heap.size, 0, none⟩ 1 1 (d6 ⟨k, j, rowL fs k j, rowL gs k j⟩) (by rfl) (by rfl) (World.news_of_block (heap_alloc_new wx _)) (by simp [d6, Value.oneCell']) (by decide) (by unfold maxLen; omega) (by omega) (by simp; omega) _ rfl ?_; intro g cap' w8 hown hgrow hat hlt2; have HP10 := Hd.mk ((HP9.out.allocD _).grown hgrow HN.out)))
            have HQ : Hd (World.ownsRow w8 w.heap.size 40 6 (Value.slice (some ⟨g, 0, none⟩) ((dlK fs gs k ++ dlS k (rowL fs k) (rowL gs k) j).length + 1) cap') (dlK fs gs k ++ dlS k (rowL fs k) (rowL gs k) (j + 1)).length (flatD (dlK fs gs k ++ dlS k (rowL fs k) (rowL gs k) (j + 1)))) := ⟨by
              rw [dlS_more hc, ← List.append_assoc, flatD_app, List.length_append (bs := [_])]
              exact hown⟩
            have HQ2 : Hd (∀ kb, (Value.slice (some ⟨g, 0, none⟩) ((dlK fs gs k ++ dlS k (rowL fs k) (rowL gs k) j).length + 1) cap').ownBlock = some kb → kb ≠ w2.heap.size ∧ kb ≠ w2.heap.size + 1) := ⟨fun kb hk => by
              obtain rfl : g = kb := by simpa [Value.ownBlock] using hk
              rcases hat with h | h
              · exact HNN.out g h
              · simp at h
                omega⟩
            clear hown hgrow hat HO9 HN HNN HP9
            go_wp2_with fail
            go_roundw
            case rel =>
              refine ⟨j + 1, by omega, by go_num, ?_, HP10⟩
              rw [← List.length_append]
              exact ⟨HQ.out, HQ2.out⟩
            case measure => simp [intOf]; omega
        · obtain rfl : j = 16 := by omega
          go_wp2_with fail
          go_roundw
          case rel => exact ⟨k + 1, by omega, by go_num, ⟨HO.out.1⟩, ⟨HP.out.below⟩⟩
          case measure => simp [intOf]; omega
    · obtain rfl : k = max fs.length gs.length := by omega
      go_wp2_with fail
      go_ret
      exact ⟨_, rfl, HO.out, HL.out⟩
end Go.Proofs.YtcjmejokgoefkaaGreat
