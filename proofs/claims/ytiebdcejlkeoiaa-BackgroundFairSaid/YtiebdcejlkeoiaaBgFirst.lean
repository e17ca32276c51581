/- The walks of the searches that the queue makes: the first work of a kind, whether a kind is offered, and the library's two searches. -/
import Derived.Test.YtiebdcejlkeoiaaBgWalk
namespace Go.Proofs.Ytiebdcejlkeoiaa
open Go.RowKit
set_option linter.unusedSimpArgs false
set_option linter.unusedVariables false

/-- A list of works in block g, from its head on. -/
def WkIn (w : World) (g : Nat) (l : List Wk) : Prop := g < w.heap.size ∧ ∀ (k : Nat) (x : Wk), l[k]? = some x → w.cell? ⟨g, k * 2, none⟩ = some (.int .i64 x.1) ∧ w.cell? ⟨g, k * 2 + 1, none⟩ = some (.int .i64 x.2)
theorem WkIn.block {w w' : World} {g : Nat} {l : List Wk} (h : WkIn w g l) (hb : w'.heap[g]? = w.heap[g]?) (hs : w.heap.size ≤ w'.heap.size) : WkIn w' g l :=
  ⟨Nat.lt_of_lt_of_le h.1 hs, fun k x hk => ⟨(World.cell?_of_block (w := w) hb).trans (h.2 k x hk).1, (World.cell?_of_block (w := w) hb).trans (h.2 k x hk).2⟩⟩
theorem WkIn.below {w w' : World} {g : Nat} {l : List Wk} (h : WkIn w g l) (hb : Below w.heap.size w w') : WkIn w' g l := h.block (hb.block g h.1) hb.size
/-- The slice of works that a holds: nothing, or a block from its head on. -/
def WkS (w : World) (a : Option Addr) (l : List Wk) : Prop := l = [] ∨ ∃ g, a = some ⟨g, 0, none⟩ ∧ WkIn w g l
theorem WkS.below {w w' : World} {a : Option Addr} {l : List Wk} (h : WkS w a l) (hb : Below w.heap.size w w') : WkS w' a l := by
  rcases h with h | ⟨g, h1, h2⟩
  · exact .inl h
  · exact .inr ⟨g, h1, h2.below hb⟩
theorem WkS.in {w : World} {a : Option Addr} {l : List Wk} (h : WkS w a l) {i : Nat} (hi : i < l.length) : ∃ g, a = some ⟨g, 0, none⟩ ∧ WkIn w g l := by
  rcases h with rfl | h
  · simp at hi
  · exact h

/-- Nothing of this kind among the first n. -/
def noK (l : List Wk) (k : Int) (n : Nat) : Prop := ∀ j x, j < n → l[j]? = some x → x.1 ≠ k
theorem noK_succ {l : List Wk} {k : Int} {n : Nat} {x : Wk} (h : noK l k n) (hx : l[n]? = some x) (hne : x.1 ≠ k) : noK l k (n + 1) := by
  intro j y hj hy
  by_cases hjn : j < n
  · exact h j y hjn hy
  · obtain rfl : j = n := by omega
    rw [hx] at hy; obtain rfl := Option.some.inj hy; exact hne
theorem fst_at {l : List Wk} {k : Int} {n : Nat} {x : Wk} (h : noK l k n) (hx : l[n]? = some x) (he : x.1 = k) : fstK l k = x ∧ hasK l k = true := by
  induction l generalizing n with
  | nil => simp at hx
  | cons y l ih =>
    unfold fstK hasK
    rcases n with _ | n
    · simp at hx; subst hx; simp [he]
    · have h0 := h 0 y (by omega) (by simp)
      have h1 := ih (n := n) (fun j z hj hz => h (j + 1) z (by omega) (by simpa using hz)) (by simpa using hx)
      have hb : (y.1 == k) = false := by simpa using h0
      rw [List.find?_cons, hb, List.any_cons, hb]
      exact h1
theorem fst_none {l : List Wk} {k : Int} (h : noK l k l.length) : fstK l k = (0, 0) ∧ hasK l k = false := by
  have h1 : ∀ x ∈ l, (x.1 == k) = false := fun x hx => by
    obtain ⟨j, hj, e⟩ := List.getElem_of_mem hx
    have := h j x hj (by rw [List.getElem?_eq_getElem hj, e])
    simpa using this
  constructor
  · unfold fstK
    rw [List.find?_eq_none.2 (fun x hx => by rw [h1 x hx]; simp)]; rfl
  · unfold hasK
    rw [Bool.eq_false_iff]
    intro hc
    rw [List.any_eq_true] at hc
    obtain ⟨x, hx, hk⟩ := hc
    rw [h1 x hx] at hk; cases hk

theorem results_ct70 {fn : Func} {p q : Tmp} (h : fn.results = #[.cell p 70, .tmp q]) {tmps : Array Value} {w : World} {a : Addr} {v u : Value}
    (hp : tmps.getD p undef = .pointer (some a)) (hl : (loadVar 70 a).run Try.prog w = .ok v w) (hq : tmps.getD q undef = u) : (results fn tmps).run Try.prog w = .ok (.tuple #[v, u]) w :=
  results_ct h hp (by rw [← ldv_eq]; exact hl) hq

set_option maxHeartbeats 1000000 in
theorem first53 (a : Option Addr) (cap : Nat) (l : List Wk) (k : Int) (w : World) (hl : l.length ≤ 100) (hW : WkS w a l) :
    Calls Try.prog 53 #[.slice a l.length cap, .int .i64 k] w fun e w' => e = .returned (.tuple #[.agg #[.int .i64 (fstK l k).1, .int .i64 (fstK l k).2], .bool (hasK l k)]) ∧ Below w.heap.size w w' := by
  obtain ⟨n, hn⟩ : ∃ n, n = l.length := ⟨_, rfl⟩
  rw [← hn] at hl ⊢
  have HN := Hd.mk hn
  have HW := Hd.mk hW
  clear hn hW
  go_enter Try.func53, Try.ntmps53
  go_wp2_with fail
  go_loop [6] (fun v => ∃ i : Nat, i ≤ n ∧ v = .int .i64 (i : Int) ∧ Hd (noK l k i)) (fun v => n - (intOf v).toNat)
  case atStart => exact ⟨0, by omega, rfl, ⟨fun j x hj _ => by omega⟩⟩
  case round =>
    obtain ⟨i, hi, rfl, HO⟩ := hrel
    by_cases hlt : i < n
    · obtain ⟨g, rfl, hg⟩ := HW.out.in (by rw [← HN.out]; exact hlt)
      obtain ⟨x, hx⟩ : ∃ x, l[i]? = some x := ⟨_, List.getElem?_eq_getElem (by rw [← HN.out]; exact hlt)⟩
      obtain ⟨hx1, hx2⟩ := hg.2 i x hx
      have hgl := hg.1
      have HX := Hd.mk hx
      have q1 : (i : Int) < n := by omega
      clear hg hx
      by_cases he : x.1 = k
      · have HF := Hd.mk (fst_at HO.out HX.out he)
        have e1 : (x.1 == k) = true := by simp [he]
        clear he
        go_wp2_with fail
        refine bodyPost_ret (v := .tuple #[.agg #[.int .i64 x.1, .int .i64 x.2], .bool true]) (results_ct70 rfl rfl (by simp (maxDischargeDepth := 6) [go_sem]) rfl) rfl ⟨by rw [HF.out.1, HF.out.2], ?_⟩
        exact (Below.refl _ _).alloc (Nat.le_refl _) _
      · have e1 : (x.1 == k) = false := by simpa using he
        have HK := Hd.mk (noK_succ HO.out HX.out he)
        clear he
        go_wp2_with fail
        go_round
        case rel => exact ⟨i + 1, by omega, by go_num, HK⟩
        case measure => simp [intOf]; omega
    · obtain rfl : i = n := by omega
      have HF : Hd (fstK l k = (0, 0) ∧ hasK l k = false) := ⟨fst_none (by rw [← HN.out]; exact HO.out)⟩
      go_wp2_with fail
      refine bodyPost_ret (v := .tuple #[.agg #[.int .i64 0, .int .i64 0], .bool false]) (results_ct70 rfl rfl (by simp (maxDischargeDepth := 6) [go_sem]) rfl) rfl ⟨by rw [HF.out.1, HF.out.2], ?_⟩
      exact (Below.refl _ _).alloc (Nat.le_refl _) _

/-! ### slices.Contains at nine bools -/
def anyB (f : Nat → Bool) (n : Nat) : Bool := (List.range n).any f
def noB (f : Nat → Bool) (n : Nat) : Prop := ∀ j, j < n → f j = false
def IdxB (f : Nat → Bool) (w : World) (e : Ending) (w' : World) : Prop := ∃ n : Int, e = .returned (.int .i64 n) ∧ decide (n ≥ 0) = anyB f 9 ∧ w = w'
theorem anyB_at {f : Nat → Bool} {i n : Nat} (hi : i < n) (h : f i = true) : anyB f n = true := by
  simp only [anyB, List.any_eq_true, List.mem_range]; exact ⟨i, hi, h⟩
theorem anyB_no {f : Nat → Bool} {n : Nat} (h : noB f n) : anyB f n = false := by
  rw [Bool.eq_false_iff]; intro hc
  simp only [anyB, List.any_eq_true, List.mem_range] at hc
  obtain ⟨i, hi, h2⟩ := hc
  rw [h i hi] at h2; cases h2

set_option maxHeartbeats 1000000 in
theorem index54 (g : Nat) (f : Nat → Bool) (w : World) (hf : ∀ j, j < 9 → w.cell? ⟨g, j, none⟩ = some (.bool (f j))) : Calls Try.prog 54 #[.slice (some ⟨g, 0, none⟩) 9 9, .bool true] w (IdxB f w) := by
  have HF := Hd.mk hf
  clear hf
  go_enter Try.func54, Try.ntmps54
  go_wp2_with fail
  go_loop [8] (fun v => ∃ i : Nat, i ≤ 9 ∧ v = .int .i64 (i : Int) ∧ Hd (noB f i)) (fun v => 9 - (intOf v).toNat)
  case atStart => exact ⟨0, by omega, rfl, ⟨fun j hj => by omega⟩⟩
  case round =>
    obtain ⟨i, hi, rfl, HO⟩ := hrel
    by_cases hlt : i < 9
    · have hc := HF.out i hlt
      have q1 : (i : Int) < 9 := by omega
      have q0 : (0 : Int) ≤ i := by omega
      cases hb : f i with
      | true =>
        have HA := Hd.mk (anyB_at hlt hb)
        rw [hb] at hc
        clear hb
        go_wp2_with fail
        go_ret
        exact ⟨(i : Int), rfl, by rw [HA.out]; simp, rfl⟩
      | false =>
        have HA : Hd (noB f (i + 1)) := ⟨fun j hj => by
          by_cases h : j < i
          · exact HO.out j h
          · obtain rfl : j = i := by omega
            exact hb⟩
        rw [hb] at hc
        clear hb
        go_wp2_with fail
        go_round
        case rel => exact ⟨i + 1, by omega, by go_num, HA⟩
        case measure => simp [intOf]; omega
    · obtain rfl : i = 9 := by omega
      have HA := Hd.mk (anyB_no HO.out)
      go_wp2_with fail
      go_ret
      exact ⟨-1, rfl, by rw [HA.out]; simp, rfl⟩
set_option maxHeartbeats 1000000 in
theorem contains50 (g : Nat) (f : Nat → Bool) (w : World) (hf : ∀ j, j < 9 → w.cell? ⟨g, j, none⟩ = some (.bool (f j))) : Calls Try.prog 50 #[.slice (some ⟨g, 0, none⟩) 9 9, .bool true] w fun e w' => e = .returned (.bool (anyB f 9)) ∧ w = w' := by
  have HF := Hd.mk (index54 g f w hf)
  clear hf
  go_enter Try.func50, Try.ntmps50
  go_wp2_with fail
  refine HF.out.mono ?_
  rintro e w' ⟨n, rfl, hn, rfl⟩
  have HN := Hd.mk hn
  clear hn
  go_wp2_with fail
  go_ret
  exact ⟨by rw [← HN.out]; rfl, rfl⟩

/-! ### slices.IndexFunc at the kind of the queue -/
set_option maxHeartbeats 1000000 in
theorem is52 (x : Wk) (q : Qu) (gq : Nat) (w : World) (hq : ∀ o, w.cell? ⟨gq, o, none⟩ = (quA q)[o]?) (hg : gq < w.heap.size) : Calls Try.prog 52 #[.agg #[.int .i64 x.1, .int .i64 x.2], .pointer (some ⟨gq, 0, none⟩)] w fun e w' => e = .returned (.bool (x.1 == q.kind)) ∧ Below w.heap.size w w' := by
  go_enter Try.func52, Try.ntmps52
  go_wp2_with fail
  go_ret
  exact ⟨rfl, (Below.refl _ _).alloc (Nat.le_refl _) _⟩
set_option maxHeartbeats 1000000 in
theorem indexFunc51 (a : Option Addr) (cap : Nat) (l : List Wk) (q : Qu) (gq : Nat) (tq : TypeId) (w : World) (hl : l.length ≤ 100) (hW : WkS w a l) (hq : w.heap[gq]? = some (.cells (quA q) tq (0, 0))) :
    Calls Try.prog 51 #[.slice a l.length cap, .func (.func 52) #[] #[.pointer (some ⟨gq, 0, none⟩)]] w fun e w' => (∃ i : Nat, l[i]? = some (fstK l q.kind) ∧ i < l.length ∧ e = .returned (.int .i64 (i : Int)) ∧ hasK l q.kind = true ∨ hasK l q.kind = false ∧ e = .returned (.int .i64 (-1))) ∧ Below w.heap.size w w' := by
  obtain ⟨n, hn⟩ : ∃ n, n = l.length := ⟨_, rfl⟩
  rw [← hn] at hl ⊢
  have HN := Hd.mk hn
  have HW := Hd.mk hW
  have HQ := Hd.mk hq
  clear hn hW hq
  go_enter Try.func51, Try.ntmps51
  go_wp2_with fail
  go_loopw [8] (fun v wr => ∃ i : Nat, i ≤ n ∧ v = .int .i64 (i : Int) ∧ Hd (noK l q.kind i) ∧ Hd (Below w.heap.size w wr)) (fun v _ => n - (intOf v).toNat)
  case atStart => exact ⟨0, by omega, rfl, ⟨fun j x hj _ => by omega⟩, ⟨Below.refl _ _⟩⟩
  case round =>
    obtain ⟨i, hi, rfl, HO, HB⟩ := hrel
    by_cases hlt : i < n
    · obtain ⟨g, rfl, hg⟩ := (HW.out.below HB.out).in (by rw [← HN.out]; exact hlt)
      obtain ⟨x, hx⟩ : ∃ x, l[i]? = some x := ⟨_, List.getElem?_eq_getElem (by rw [← HN.out]; exact hlt)⟩
      obtain ⟨hx1, hx2⟩ := hg.2 i x hx
      have hgl := hg.1
      have HX := Hd.mk hx
      have q1 : (i : Int) < n := by omega
      have hql : gq < w.heap.size := (Array.getElem?_eq_some_iff.1 HQ.out).1
      have HQ2 := Hd.mk ((HB.out.block gq hql).trans HQ.out)
      clear hg hx
      go_wp2_with fail
      refine (is52 x q gq _ (blk HQ2.out).2.2.1 (blk HQ2.out).2.2.2.2).mono ?_
      rintro e w1 ⟨rfl, hb⟩
      have HB1 := Hd.mk (HB.out.trans (hb.mono HB.out.size))
      clear hb
      by_cases he : x.1 = q.kind
      · have HF := Hd.mk (fst_at HO.out HX.out he)
        have e1 : (x.1 == q.kind) = true := by simp [he]
        clear he
        go_wp2_with fail
        go_ret
        exact ⟨⟨i, .inl ⟨by rw [HF.out.1]; exact HX.out, hlt, rfl, HF.out.2⟩⟩, HB1.out⟩
      · have e1 : (x.1 == q.kind) = false := by simpa using he
        have HK := Hd.mk (noK_succ HO.out HX.out he)
        clear he
        go_wp2_with fail
        go_roundw
        case rel => exact ⟨i + 1, by omega, by go_num, HK, HB1⟩
        case measure => simp [intOf]; omega
    · obtain rfl : i = n := by omega
      have HF := Hd.mk (fst_none (l := l) (k := q.kind) (by rw [← HN.out]; exact HO.out))
      go_wp2_with fail
      go_ret
      exact ⟨⟨0, .inr ⟨HF.out.2, rfl⟩⟩, HB.out⟩
end Go.Proofs.Ytiebdcejlkeoiaa
