/- A row of changes that are chained, joined: the walk of joined (f30). -/
import Derived.Test.YtiebdcejlkeoiaaSt
import Derived.Test.YtiebdcejlkeoiaaPack
import Derived.Test.YtiebdcejlkeoiaaJoin
import Derived.Test.YtiebdcejlkeoiaaBack
namespace Go.Proofs.Ytiebdcejlkeoiaa
open Go.RowKit
set_option linter.unusedSimpArgs false
set_option linter.unusedVariables false

/-- The change k of a chain of cells at one slot of page 2. -/
def lnk (s : Nat) (f : Nat → Cl) (k m : Nat) : Ch := ⟨2, (s : Int), f k, f m⟩
/-- n changes of a chain lie in block g from the cell off on. -/
def Chn (w : World) (g off s : Nat) (f : Nat → Cl) (n : Nat) : Prop := g < w.heap.size ∧ ∀ k j, k < n → j < 6 → w.cell? ⟨g, off + k * 6 + j, none⟩ = (ch6 (lnk s f k (k + 1)))[j]?
theorem Chn.below {w w' : World} {g off s : Nat} {f : Nat → Cl} {n : Nat} (h : Chn w g off s f n) (hb : Below w.heap.size w w') : Chn w' g off s f n :=
  ⟨Nat.lt_of_lt_of_le h.1 hb.size, fun k j hk hj => by rw [World.cell?_of_block (w := w) (hb.block g h.1)]; exact h.2 k j hk hj⟩
theorem Chn.alloc {w : World} {g off s : Nat} {f : Nat → Cl} {n : Nat} (h : Chn w g off s f n) (o : Obj) : Chn (w.alloc o) g off s f n := h.below ((Below.refl _ _).alloc (Nat.le_refl _) o)
theorem Chn.ld {w : World} {g off s : Nat} {f : Nat → Cl} {n : Nat} (h : Chn w g off s f n) {k o : Nat} (hk : k < n) (ho : o = off + k * 6) :
    (ldv 29 ⟨g, o, none⟩).run Try.prog w = .ok (.agg #[.int .i64 2, .int .i64 (s : Int), .bool (f k).set, .string (f k).data, .bool (f (k + 1)).set, .string (f (k + 1)).data]) w := by
  subst ho
  exact run_ld29 (x := lnk s f k (k + 1)) (fun j hj => h.2 k j hk hj)

theorem Pre.setRow {B : Nat} {w0 w : World} {l l' : Ents} (h : Pre B w0 l w) (g : Nat) (a a' : Array Value) (t : TypeId) (hm : (g, a, t) ∈ l) (hl : ∀ x ∈ l', x ∈ l ∧ x.1 ≠ g) : Pre B w0 ((g, a', t) :: l') (w.setRow g a') := by
  have hg := (h.mem _ hm).1
  refine ⟨h.below.trans ⟨rfl, rfl, rfl, by simp, fun k hk => setRow_other _ _ _ _ (by dsimp only at hg; omega)⟩, h.hB, fun x hx => ?_⟩
  rcases List.mem_cons.1 hx with rfl | hx
  · exact ⟨hg, setRow_heap w g a a' t (0, 0) (h.mem _ hm).2⟩
  · exact ⟨(h.mem x (hl x hx).1).1, by rw [setRow_other _ _ _ _ (hl x hx).2]; exact (h.mem x (hl x hx).1).2⟩
theorem Pre.at {B : Nat} {w0 w : World} {l : Ents} (h : Pre B w0 l w) (g : Nat) (arr : Array Value) (t : TypeId) (hm : (g, arr, t) ∈ l) : rowAt w g = arr ∧ live w g = true ∧ g ≠ w.heap.size ∧ g ≠ w.heap.size + 1 := by
  obtain ⟨h1, h2, _, _, h5⟩ := blk (h.mem _ hm).2
  exact ⟨h1, h2, by omega, by omega⟩
theorem Pre.sub {B : Nat} {w0 w : World} {l : Ents} (h : Pre B w0 l w) {l' : Ents} (hs : ∀ x ∈ l', x ∈ l) : Pre B w0 l' w := ⟨h.below, h.hB, fun x hx => h.mem x (hs x hx)⟩

set_option maxHeartbeats 1000000 in
theorem joined30 (g off n cap s : Nat) (f : Nat → Cl) (w : World) (hn : 1 ≤ n) (hcap : n ≤ cap) (hmax : cap ≤ maxLen) (hs : s < 16) (hf : ∀ k, k ≤ n → clOk (f k) = true) (hC : Chn w g off s f n) :
    Calls Try.prog 30 #[.slice (some ⟨g, off, none⟩) n cap] w fun e w' => e = .returned (.tuple #[Ch.v ⟨2, (s : Int), f 0, f n⟩, .bool true]) ∧ Below w.heap.size w w' := by
  have h0 : ∀ o : Obj, _ := fun o => (hC.alloc o).ld (k := 0) (o := off) (by omega) (by omega)
  have HC := Hd.mk hC
  have HF := Hd.mk hf
  unfold maxLen at hmax
  clear hf hC
  have q0 : (0 : Int) < n := by omega
  have q1 : (1 : Int) ≤ n := by omega
  go_enter Try.func30, Try.ntmps30
  go_wp2_with fail
  all_goals
    have HP := Hd.mk (((Pre.nil w).alloc #[.int .i64 0, .int .i64 0, .bool false, .string ⟨#[]⟩, .bool false, .string ⟨#[]⟩] 29 w.heap.size rfl).alloc #[.int .i64 2, .int .i64 (s : Int), .bool (f 0).set, .string (f 0).data, .bool (f 1).set, .string (f 1).data] 29 (w.heap.size + 1) (by simp))
    clear h0 q0 q1
    go_loopw [15] (fun v wr => ∃ k : Nat, k + 1 ≤ n ∧ v = .int .i64 (k : Int) ∧ Hd (Pre w.heap.size w [(w.heap.size + 1, #[.int .i64 2, .int .i64 (s : Int), .bool (f 0).set, .string (f 0).data, .bool (f (k + 1)).set, .string (f (k + 1)).data], 29), (w.heap.size, #[.int .i64 0, .int .i64 0, .bool false, .string ⟨#[]⟩, .bool false, .string ⟨#[]⟩], 29)] wr)) (fun v _ => n - (intOf v).toNat)
    case atStart => exact ⟨0, by omega, rfl, HP⟩
    case round =>
      clear HP
      obtain ⟨k, hk, rfl, HP⟩ := hrel
      by_cases hlt : k < n - 1
      · try (exfalso; omega)
        all_goals
          have h0 := ((HC.out).below HP.out.below).ld (k := k + 1) (o := off + 6 + k * 6) (by omega) (by omega)
          have HJ := Hd.mk (joinF_mk (q := s) (x := f 0) (y := f (k + 1)) (z := f (k + 1 + 1)) 2 (by omega) (by omega) hs (HF.out _ (by omega)) (HF.out _ (by omega)) (HF.out _ (by omega)))
          have q1 : (0 : Int) ≤ k := by omega
          have q2 : (k : Int) < ((n - 1 : Nat) : Int) := by omega
          obtain ⟨a1, a2, a3, a4⟩ := HP.out.at (w.heap.size + 1) #[.int .i64 2, .int .i64 (s : Int), .bool (f 0).set, .string (f 0).data, .bool (f (k + 1)).set, .string (f (k + 1)).data] 29 (by simp)
          go_wp2_with fail
          refine (join18 ⟨2, (s : Int), f 0, f (k + 1)⟩ ⟨2, (s : Int), f (k + 1), f (k + 1 + 1)⟩ _).mono ?_
          rintro e w1 ⟨rfl, hb⟩
          rw [HJ.out]
          simp only [Ch.v]
          have S := (HP.out.alloc #[.int .i64 2, .int .i64 (s : Int), .bool (f (k + 1)).set, .string (f (k + 1)).data, .bool (f (k + 1 + 1)).set, .string (f (k + 1 + 1)).data] 29 wr.heap.size rfl).step hb
          clear hb HP HJ h0 a1 a2 a3 a4
          have S := S.alloc #[.int .i64 2, .int .i64 (s : Int), .bool (f 0).set, .string (f 0).data, .bool (f (k + 1 + 1)).set, .string (f (k + 1 + 1)).data] 29 w1.heap.size rfl
          obtain ⟨a1, a2, a3, a4⟩ := S.at w1.heap.size #[.int .i64 2, .int .i64 (s : Int), .bool (f 0).set, .string (f 0).data, .bool (f (k + 1 + 1)).set, .string (f (k + 1 + 1)).data] 29 (by simp)
          obtain ⟨b1, b2, b3, b4⟩ := S.at (w.heap.size + 1) #[.int .i64 2, .int .i64 (s : Int), .bool (f 0).set, .string (f 0).data, .bool (f (k + 1)).set, .string (f (k + 1)).data] 29 (by simp)
          have HS := Hd.mk S
          clear S
          go_wp2_with fail
          go_roundw
          case rel => exact ⟨k + 1, by omega, by go_num, ⟨HS.out.setRow (w.heap.size + 1) _ _ 29 (List.mem_cons_of_mem _ (List.mem_cons_of_mem _ (List.mem_cons_self ..))) (l' := [(w.heap.size, #[.int .i64 0, .int .i64 0, .bool false, .string ⟨#[]⟩, .bool false, .string ⟨#[]⟩], 29)]) (by simp)⟩⟩
          case measure => simp [intOf]; omega
      · have hkn : n = k + 1 := by omega
        subst hkn
        obtain ⟨a1, a2, a3, a4⟩ := HP.out.at (w.heap.size + 1) #[.int .i64 2, .int .i64 (s : Int), .bool (f 0).set, .string (f 0).data, .bool (f (k + 1)).set, .string (f (k + 1)).data] 29 (by simp)
        obtain ⟨b1, b2, b3, b4⟩ := HP.out.at (w.heap.size) #[.int .i64 0, .int .i64 0, .bool false, .string ⟨#[]⟩, .bool false, .string ⟨#[]⟩] 29 (by simp)
        go_wp2_with fail
        refine bodyPost_ret (v := .tuple #[Ch.v ⟨2, (s : Int), f 0, f (k + 1)⟩, .bool true]) (results_ct rfl rfl (by simp (maxDischargeDepth := 6) [Ch.v, go_sem, b1, b2]) rfl) rfl ⟨rfl, ?_⟩
        exact HP.out.below.trans (Go.below_setRow (Below.refl _ _) (by have := HP.out.below.size; omega) _ |>.mono (Nat.le_refl _))

/-! ### A row that grows -/
def flat (s : Nat) (f : Nat → Cl) : Nat → List Value
  | 0 => []
  | n + 1 => flat s f n ++ ch6 (lnk s f n (n + 1))
theorem flat_len (s : Nat) (f : Nat → Cl) (n : Nat) : (flat s f n).length = n * 6 := by
  induction n with
  | zero => rfl
  | succ n ih => simp [flat, ih, ch6]; omega
theorem flat_congr (s : Nat) (f f' : Nat → Cl) (n : Nat) (h : ∀ k, k ≤ n → f k = f' k) : flat s f n = flat s f' n := by
  induction n with
  | zero => rfl
  | succ n ih => simp only [flat, lnk]; rw [ih (fun k hk => h k (by omega)), h n (by omega), h (n + 1) (by omega)]
theorem flat_at (s : Nat) (f : Nat → Cl) (n k j : Nat) (hk : k < n) (hj : j < 6) : (flat s f n)[k * 6 + j]? = (ch6 (lnk s f k (k + 1)))[j]? := by
  induction n with
  | zero => omega
  | succ n ih =>
    simp only [flat]
    by_cases hkn : k < n
    · rw [List.getElem?_append_left (by rw [flat_len]; omega)]; exact ih hkn
    · have : k = n := by omega
      subst this
      rw [List.getElem?_append_right (by rw [flat_len]; omega), flat_len]
      congr 1; omega
theorem own_chn {w : World} {base g cap n s : Nat} {f : Nat → Cl} (h : w.ownsRow base 29 6 (.slice (some ⟨g, 0, none⟩) n cap) n (flat s f n)) : Chn w g 0 s f n := by
  refine ⟨(h.lt g rfl).2, fun k j hk hj => ?_⟩
  have hv : ∃ v, (ch6 (lnk s f k (k + 1)))[j]? = some v := by
    simp only [ch6]
    rcases j with _ | _ | _ | _ | _ | _ | j <;> first | exact ⟨_, rfl⟩ | omega
  obtain ⟨v, hv⟩ := hv
  have := h.cells (g := g) rfl (k * 6 + j) v (by rw [flat_at s f n k j hk hj]; exact hv)
  rw [Addr.add_lit] at this
  rw [hv, Nat.add_assoc]; exact this
theorem own_blk {w w' : World} {base : Nat} {e : TypeId} {size : Nat} {v : Value} {n : Nat} {xs : List Value} (h : w.ownsRow base e size v n xs) (hb : ∀ k, base ≤ k → k < w.heap.size → w'.heap[k]? = w.heap[k]?) : w'.ownsRow base e size v n xs := by
  refine ⟨h.1, ?_⟩
  rcases h.2 with hn | ⟨g, cap, cur, rfl, hb', hg, rest⟩
  · exact .inl hn
  · exact .inr ⟨g, cap, cur, rfl, hb', by rw [hb g hb' (Array.getElem?_eq_some_iff.1 hg).1]; exact hg, rest⟩
theorem Sk.grown {c B : Nat} {w0 w w' : World} {l : Ents} {row : Option Nat} (h : Sk c B w0 l w) (hg : w.grownBy w' row) (hr : ∀ k, row = some k → c < k ∧ ∀ x ∈ l, x.1 ≠ k) : Sk c B w0 l w' := by
  have hc := h.hc
  have hlt := h.cds.lt
  refine ⟨h.cds.of_block fun k hk => hg.block k (by omega) (fun e => by have := (hr k e.symm).1; omega), h.below.trans ⟨hg.os, hg.tape, hg.output, hg.size, fun k hk => hg.block k (by omega) (fun e => by have := (hr k e.symm).1; omega)⟩, h.hB, h.hc, fun x hx => ⟨(h.mem x hx).1, ?_⟩⟩
  rw [hg.block x.1 (h.lt hx) (fun e => (hr x.1 e.symm).2 x hx rfl)]
  exact (h.mem x hx).2
/-- The chain one longer. -/
def grow (f : Nat → Cl) (j : Nat) (x : Cl) : Nat → Cl := fun k => if k ≤ j then f k else x
theorem grow_le {f : Nat → Cl} {j : Nat} {x : Cl} {k : Nat} (h : k ≤ j) : grow f j x k = f k := by simp [grow, h]
theorem grow_new {f : Nat → Cl} {j : Nat} {x : Cl} : grow f j x (j + 1) = x := by unfold grow; rw [if_neg (by omega)]
theorem grow_ok {f : Nat → Cl} {j : Nat} {x : Cl} (h : ∀ k, clOk (f k) = true) (hx : clOk x = true) : ∀ k, clOk (grow f j x k) = true := by
  intro k; unfold grow; split
  · exact h k
  · exact hx
theorem flat_grow (s : Nat) (f : Nat → Cl) (j : Nat) (x : Cl) : flat s f j ++ ch6 ⟨2, (s : Int), f j, x⟩ = flat s (grow f j x) (j + 1) := by
  simp only [flat, lnk]
  rw [flat_congr s f (grow f j x) j (fun k hk => (grow_le hk).symm), grow_new, grow_le (Nat.le_refl _)]
theorem info29r : (Try.prog.info? 29).map (fun i => (i.zero, i.size, i.bytes)) = some (some (.agg #[.int .i64 0, .int .i64 0, .bool false, .string ⟨#[]⟩, .bool false, .string ⟨#[]⟩]), 6, 64) := by kernel_rfl

@[go_sem ↓ high] theorem bsl50 (n : Nat) (parts : Array (Nat × Value)) : Instr.buildSlice 50 n parts = bsl 50 n parts := bsl_eq _ _ _
@[go_sem] theorem run_bsl50 (w : World) (x y : Int) (a : Bool) (b : ByteArray) (d : Bool) (e : ByteArray) : (bsl 50 1 #[(0, .agg #[.int .i64 x, .int .i64 y, .bool a, .string b, .bool d, .string e])]).run Try.prog w
   = .ok (.slice (some ⟨w.heap.size, 0, none⟩) 1 1) (w.alloc (.cells #[.int .i64 x, .int .i64 y, .bool a, .string b, .bool d, .string e] 29)) := by
  rw [← bsl_eq]
  kernel_rfl
theorem Hd.imp {p q : Prop} (h : Hd p) (f : p → q) : Hd q := ⟨f h.out⟩

/-- One more change in the row: what the round keeps. -/
theorem round_own {w8 : World} {gl s j : Nat} {f : Nat → Cl} {x : Cl} {v : Value} {m : Nat} (h : w8.ownsRow (gl + 1) 29 6 v m (flat s f j ++ ch6 ⟨2, (s : Int), f j, x⟩)) (hm : m = j + 1) (u1 u2 : Value) :
    ((w8.setCell ⟨gl, 0, none⟩ u1).setCell ⟨gl, 1, none⟩ u2).ownsRow (gl + 1) 29 6 v (j + 1) (flat s (grow f j x) (j + 1)) := by
  subst hm
  rw [← flat_grow]
  refine own_blk h fun k h1 h2 => ?_
  rw [Below.heap_setCell _ _ _ _ (by dsimp only; omega), Below.heap_setCell _ _ _ _ (by dsimp only; omega)]
theorem round_sk {c B gl j s : Nat} {w0 wc w8 W : World} {b gp : Nat} {f : Nat → Cl} {x : Cl} {cb cp : Array Value} {tb tp : TypeId} {row : Option Nat}
    (h : Sk c B w0 [(b, cb, tb), (gl, #[.bool (f j).set, .string (f j).data], 24), (gp, cp, tp)] wc) (hd : Dr c wc W) (hg : W.grownBy w8 row) (hr : ∀ k, row = some k → gl + 1 ≤ k) (hb : ∀ k, row = some k → k ≠ b) (hgp : gp < gl) (hcl : c < gl) :
    Sk c B w0 [(gl, #[.bool (grow f j x (j + 1)).set, .string (grow f j x (j + 1)).data], 24), (gp, cp, tp)] ((w8.setCell ⟨gl, 0, none⟩ (.bool x.set)).setCell ⟨gl, 1, none⟩ (.string x.data)) := by
  have S := (h.dr hd).grown hg (fun k hk => by
    have h1 := hr k hk
    have h2 := hb k hk
    exact ⟨by omega, fun y hy => by simp at hy; rcases hy with rfl | rfl | rfl <;> dsimp only <;> omega⟩)
  have S := S.sub (l' := [(gl, #[.bool (f j).set, .string (f j).data], 24), (gp, cp, tp)]) (fun y hy => List.mem_cons_of_mem _ hy)
  have S := S.setCell gl _ 24 (List.mem_cons_self ..) hcl 0 (.bool x.set) (l' := [(gp, cp, tp)]) (fun y hy => by simp at hy; subst hy; exact ⟨by simp, by dsimp only; omega⟩)
  have S := S.setCell gl _ 24 (List.mem_cons_self ..) hcl 1 (.string x.data) (l' := [(gp, cp, tp)]) (fun y hy => by simp at hy; subst hy; exact ⟨by simp, by dsimp only; omega⟩)
  rw [grow_new]
  exact S

/-- The row that is grown: its block, and that the chain lies in it wherever that block is. -/
theorem own_cur {w : World} {base j s : Nat} {f : Nat → Cl} {v : Value} (h : w.ownsRow base 29 6 v j (flat s f j)) (hj : 0 < j) :
    ∃ (g cap : Nat) (cur : Array Value), v = .slice (some ⟨g, 0, none⟩) j cap ∧ base ≤ g ∧ j ≤ cap ∧ cap ≤ maxLen ∧ w.heap[g]? = some (.cells cur 29 (0, 0)) ∧ ∀ W : World, W.heap[g]? = some (.cells cur 29 (0, 0)) → Chn W g 0 s f j := by
  have h' := h
  rcases h'.2 with ⟨_, h0⟩ | ⟨g, cap, cur, rfl, hb, hg, h1, h2, h3, h4⟩
  · omega
  · refine ⟨g, cap, cur, rfl, hb, h1, h2, hg, fun W hW => ?_⟩
    have hc := own_chn h
    refine ⟨(Array.getElem?_eq_some_iff.1 hW).1, fun k i hk hi => ?_⟩
    rw [World.cell?_of_block (w := w) (hW.trans hg.symm)]
    exact hc.2 k i hk hi
theorem Chn.shift {w : World} {g off s n : Nat} {f : Nat → Cl} (h : Chn w g off s f n) (k m : Nat) (hk : k + m ≤ n) (o : Nat) (ho : o = off + k * 6) : Chn w g o s (fun i => f (k + i)) m := by
  subst ho
  refine ⟨h.1, fun i j hi hj => ?_⟩
  have := h.2 (k + i) j (by omega) hj
  rw [Nat.add_mul, ← Nat.add_assoc] at this
  exact this
theorem Chn.take {w : World} {g off s n : Nat} {f : Nat → Cl} (h : Chn w g off s f n) (m : Nat) (hk : m ≤ n) : Chn w g off s f m := ⟨h.1, fun i j hi hj => h.2 i j (by omega) hj⟩
theorem apply_lnk (q : Pg) (s k : Nat) (f : Nat → Cl) (hq : q.id = 2) (hs : s < 16) (hf : ∀ k, clOk (f k) = true) : applyF (q.upd s (f k)) ⟨2, (s : Int), f k, f (k + 1)⟩ = (q.upd s (f (k + 1)), 0) := by
  have := applyF_mk (q.upd s (f k)) s (f (k + 1)) (by rw [Pg.upd_id, hq]; omega) (by rw [Pg.upd_id, hq]; omega) hs (by rw [Pg.upd_at]; exact hf _) (hf _)
  rw [Pg.upd_id, Pg.upd_at, Pg.upd_upd, hq] at this
  exact this
theorem apply_all (q : Pg) (s n : Nat) (f : Nat → Cl) (hq : q.id = 2) (hs : s < 16) (h0 : f 0 = q.cell s) (hf : ∀ k, clOk (f k) = true) : applyF q ⟨2, (s : Int), f 0, f n⟩ = (q.upd s (f n), 0) := by
  have := applyF_mk q s (f n) (by rw [hq]; omega) (by rw [hq]; omega) hs (by rw [← h0]; exact hf _) (hf _)
  rw [hq, ← h0] at this
  exact this

end Go.Proofs.Ytiebdcejlkeoiaa
