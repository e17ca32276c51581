/- The walk of the law ChangeBack: it returns true and leaves old memory as it was. -/
import Derived.Test.YtiebdcejlkeoiaaOdd
import Derived.Test.YtiebdcejlkeoiaaEq
import Derived.Test.YtiebdcejlkeoiaaApply
import Derived.Test.YtiebdcejlkeoiaaJoin
import Derived.Deep.RegionHeld3
import Derived.Deep.DeepCutAuto
namespace Go.Proofs.Ytiebdcejlkeoiaa
open Go.RowKit
set_option linter.unusedSimpArgs false

theorem IsBytes.below {w w' : World} {a : Option Addr} {n cap : Nat} (h : IsBytes w a n cap) (hb : Below w.heap.size w w') : IsBytes w' a n cap := by
  obtain ⟨h1, h2, h3⟩ := h
  refine ⟨h1, h2, fun j hj => ?_⟩
  obtain ⟨b, o, x, e1, e2, e3, e4⟩ := h3 j hj
  exact ⟨b, o, x, e1, Nat.lt_of_lt_of_le e2 hb.size, e3, by rw [World.cell?_of_block (w := w) (hb.block b e2)]; exact e4⟩
theorem Dr.below {c B : Nat} {u v : World} (h : Dr c u v) (hc : B ≤ c) (hB : B ≤ u.heap.size) : Below B u v :=
  ⟨h.os, h.tape, h.output, h.size, fun k hk => h.block k (by omega) (by omega)⟩

/-- What a law's walk keeps of its memory: old memory as it was, and its own variables with what they hold. -/
def St (B : Nat) (w0 : World) (l : List (Nat × Array Value × TypeId)) (w : World) : Prop := (Below B w0 w ∧ B ≤ w0.heap.size) ∧ ∀ x ∈ l, w.heap[x.1]? = some (.cells x.2.1 x.2.2 (0, 0))
theorem St.step {B : Nat} {w0 w w' : World} {l : List (Nat × Array Value × TypeId)} (h : St B w0 l w) (hb : Below w.heap.size w w') : St B w0 l w' :=
  ⟨⟨h.1.1.trans (hb.mono (Nat.le_trans h.1.2 h.1.1.size)), h.1.2⟩, fun x hx => by
    have h1 := h.2 x hx
    rw [hb.block x.1 (Array.getElem?_eq_some_iff.1 h1).1]
    exact h1⟩
theorem St.alloc {B : Nat} {w0 w : World} {l : List (Nat × Array Value × TypeId)} (h : St B w0 l w) (c : Array Value) (t : TypeId) (g : Nat) (hg : g = w.heap.size) : St B w0 ((g, c, t) :: l) (w.alloc (.cells c t)) := by
  subst hg
  have h1 := h.step ((Below.refl _ _).alloc (Nat.le_refl _) (.cells c t))
  refine ⟨h1.1, fun x hx => ?_⟩
  rcases List.mem_cons.1 hx with rfl | hx
  · exact heap_alloc_new w _
  · exact h1.2 x hx
theorem St.at {B : Nat} {w0 w : World} {l : List (Nat × Array Value × TypeId)} (h : St B w0 l w) (g : Nat) (arr : Array Value) (t : TypeId) (hm : (g, arr, t) ∈ l) : rowAt w g = arr ∧ live w g = true ∧ g ≠ w.heap.size ∧ g ≠ w.heap.size + 1 := by
  obtain ⟨h1, h2, _, _, h5⟩ := blk (h.2 _ hm)
  exact ⟨h1, h2, by omega, by omega⟩
theorem St.below {B : Nat} {w0 w : World} {l : List (Nat × Array Value × TypeId)} (h : St B w0 l w) : Below B w0 w := h.1.1

theorem Pg.upd_upd (p : Pg) (s : Nat) (x y : Cl) : (p.upd s x).upd s y = p.upd s y := by
  unfold Pg.upd
  congr 1
  funext i
  dsimp only
  split <;> rfl
theorem Pg.upd_self (p : Pg) (s : Nat) : p.upd s (p.cell s) = p := by
  obtain ⟨i, l, f⟩ := p
  unfold Pg.upd
  congr 1
  funext i
  dsimp only
  split
  · rename_i h; rw [h]
  · rfl
theorem Pg.upd_at (p : Pg) (s : Nat) (x : Cl) : (p.upd s x).cell s = x := by simp [Pg.upd]
theorem Pg.upd_id (p : Pg) (s : Nat) (x : Cl) : (p.upd s x).id = p.id := rfl
theorem chOk_mk {q : Nat} {x y : Cl} (n : Int) (hn : 0 ≤ n) (hn2 : n < 64) (hq : q < 16) (hx : clOk x = true) (hy : clOk y = true) : chOk ⟨n, (q : Int), x, y⟩ = true := by
  simp [chOk, pagedB, slotB, hx, hy]; omega
theorem applyF_mk (p : Pg) (q : Nat) (y : Cl) (hp : 0 ≤ p.id) (hp2 : p.id < 64) (hq : q < 16) (hx : clOk (p.cell q) = true) (hy : clOk y = true) : applyF p ⟨p.id, (q : Int), p.cell q, y⟩ = (p.upd q y, 0) := by
  simp [applyF, chOk_mk p.id hp hp2 hq hx hy, clEq_refl]
theorem joinF_mk {q : Nat} {x y z : Cl} (n : Int) (hn : 0 ≤ n) (hn2 : n < 64) (hq : q < 16) (hx : clOk x = true) (hy : clOk y = true) (hz : clOk z = true) :
    joinF ⟨n, (q : Int), x, y⟩ ⟨n, (q : Int), y, z⟩ = (⟨n, (q : Int), x, z⟩, 0) := by
  simp [joinF, chOk_mk n hn hn2 hq hx hy, chOk_mk n hn hn2 hq hy hz, clEq_refl]

theorem pend_first {w8 W9 W10 : World} {A z : Obj} (h : Below ((w8.alloc A).alloc z).drew.heap.size ((w8.alloc A).alloc z).drew W9) (k : Below W9.heap.size W9 W10) : W10.heap[w8.heap.size + 1]? = some z := by
  have hs := h.size
  simp only [World.size_alloc, World.size_drew] at hs
  rw [k.block _ (by omega), h.block _ (by simp)]
  exact heap_alloc2_new w8 A z
theorem pendA {w8 W9 : World} {A z : Obj} (h : Below ((w8.alloc A).alloc z).drew.heap.size ((w8.alloc A).alloc z).drew W9) : W9.heap[w8.heap.size + 1]? = some z := by
  rw [h.block _ (by simp)]
  exact heap_alloc2_new w8 A z
theorem carryB {W W' : World} {n : Nat} {z : Obj} (h : W.heap[n]? = some z) (k : Below W.heap.size W W') : W'.heap[n]? = some z := by
  rw [k.block n (Array.getElem?_eq_some_iff.1 h).1]
  exact h
theorem pend_mid {W9 W10 : World} {z : Obj} (k : Below (W9.alloc z).heap.size (W9.alloc z) W10) : W10.heap[W9.heap.size]? = some z := by
  rw [k.block _ (by simp)]
  exact heap_alloc_new W9 z
theorem St.cons {B : Nat} {w0 w : World} {l : List (Nat × Array Value × TypeId)} (h : St B w0 l w) {b : Nat} {c : Array Value} {t : TypeId} (hb : w.heap[b]? = some (.cells c t (0, 0))) : St B w0 ((b, c, t) :: l) w :=
  ⟨h.1, fun x hx => by
    rcases List.mem_cons.1 hx with rfl | hx
    · exact hb
    · exact h.2 x hx⟩
theorem bfacts2 {W w1 : World} (hb : Below W.heap.size W w1) : (∀ b, b < W.heap.size → rowAt w1 b = rowAt W b) ∧ (∀ b, b < W.heap.size → live w1 b = live W b) ∧ (∀ b, b < W.heap.size → b < w1.heap.size) :=
  ⟨(bfacts hb).2.2.1, (bfacts hb).2.2.2.1, fun _ h => Nat.lt_of_lt_of_le h hb.size⟩

set_option maxHeartbeats 4000000 in
set_option maxRecDepth 100000 in
theorem back_walk (a : Option Addr) (n cap : Nat) (w : World) (h : IsBytes w a n cap) : Calls Try.prog 4 #[.slice a n cap] w fun e w' => e = .returned (.bool true) ∧ Below w.heap.size w w' := by
  go_enter Try.func4, Try.ntmps4
  go_wp2_with fail
  refine (awake12 _).mono ?_
  rintro e w1 ⟨rfl, hb1⟩
  have H := Hd.mk (h.below hb1)
  clear h
  go_wp2_with fail
  refine (new_any a n cap 160 _ (by omega) (by omega) H.out).mono ?_
  rintro e w2 ⟨c, hc, hC, rfl, hb2⟩
  have hcl := hC.lt
  have hb := hb1.trans (hb2.mono hb1.size)
  have hcw : w.heap.size ≤ c := Nat.le_trans hb1.size hc
  clear H hb1 hb2 hc w1
  have HC := Hd.mk hC
  clear hC
  go_wp2_with fail
  refine (page_any c 1 _ HC.out).mono ?_
  rintro e w3 ⟨p, hp1, hp2, rfl, hd3⟩
  have HP := Hd.mk (And.intro hp1 hp2)
  clear hp1 hp2
  have s3 := hd3.size
  go_wp2_with fail
  refine (change_any c _ ((hd3.trans (Dr.alloc c w3 _)).cds HC.out)).mono ?_
  rintro e w4 ⟨p1, q1, a1, b1, hp1, hq1, ha1, hb1, rfl, hd4⟩
  have B4 := (hd4.block w3.heap.size (by simp) (by omega)).trans (heap_alloc_new w3 _)
  replace hd4 := (hd3.trans (Dr.alloc c w3 _)).trans hd4
  have H4 := Hd.mk B4
  have s4 := (blk B4).2.2.2.2
  clear B4
  go_wp2_with fail
  refine (change_any c _ (hd4.cds HC.out)).mono ?_
  rintro e w5 ⟨p2, q2, a2, b2, hp2, hq2, ha2, hb2, rfl, hd5⟩
  have B4 := (hd5.block w3.heap.size (by omega) (by omega)).trans H4.out
  have hbel := hb.trans ((hd4.trans hd5).below hcw hb.size)
  clear H4 hd4 hd5 hd3 HC hb
  obtain ⟨g, hg⟩ : ∃ g, g = w3.heap.size := ⟨_, rfl⟩
  rw [← hg] at B4 s4 ⊢
  have hgw : w.heap.size ≤ g := by omega
  clear hg hcw hcl s3
  clear s4
  obtain ⟨d1, d2, d3, d4, d5⟩ := blk B4
  have H4 := Hd.mk B4
  clear B4
  have t1 := pgA_s p q1 (by omega)
  have t2 := pgA_d p q1 (by omega)
  have u1 : (0 : Int) ≤ (q1 : Int) := by omega
  have u2 : (q1 : Int) < 16 := by omega
  go_wp2_with fail
  go_region
  clear t1 t2
  go_wp2_with fail
  go_region
  have S0 : St w.heap.size w [(g, pgA p, 27)] w5 := ⟨⟨hbel, Nat.le_refl _⟩, fun x hx => by rw [List.mem_singleton.1 hx]; exact H4.out⟩
  have S := ((S0.alloc #[.int .i64 1, .int .i64 (q1 : Int), .bool (p.cell q1).set, .string (p.cell q1).data, .bool b1.set, .string b1.data] 29 w5.heap.size rfl).alloc #[.int .i64 1, .int .i64 (q1 : Int), .bool b1.set, .string b1.data, .bool b2.set, .string b2.data] 29 (w5.heap.size + 1) (by simp)).step ((Below.refl _ _).drew.drew)
  clear S0 H4 d1 d2 d3 d4 d5 u1 u2 hbel
  have hA1 := applyF_mk p q1 b1 (by rw [HP.out.1]; omega) (by rw [HP.out.1]; omega) (by omega) (HP.out.2 q1) hb1
  have hA2 := applyF_mk (p.upd q1 b1) q1 b2 (by rw [Pg.upd_id, HP.out.1]; omega) (by rw [Pg.upd_id, HP.out.1]; omega) (by omega) (by rw [Pg.upd_at]; exact hb1) hb2
  have hA3 := applyF_mk (p.upd q1 b1) q1 (p.cell q1) (by rw [Pg.upd_id, HP.out.1]; omega) (by rw [Pg.upd_id, HP.out.1]; omega) (by omega) (by rw [Pg.upd_at]; exact hb1) (HP.out.2 q1)
  have hA4 := applyF_mk p q1 b2 (by rw [HP.out.1]; omega) (by rw [HP.out.1]; omega) (by omega) (HP.out.2 q1) hb2
  rw [Pg.upd_id, Pg.upd_at, Pg.upd_upd, HP.out.1] at hA2
  rw [Pg.upd_id, Pg.upd_at, Pg.upd_upd, Pg.upd_self, HP.out.1] at hA3
  rw [HP.out.1] at hA1 hA4
  have hJ1 := joinF_mk (q := q1) (x := p.cell q1) (y := b1) (z := b2) 1 (by omega) (by omega) (by omega) (HP.out.2 q1) hb1 hb2
  have hJ2 := joinF_mk (q := q1) (x := b2) (y := b1) (z := p.cell q1) 1 (by omega) (by omega) (by omega) hb2 hb1 (HP.out.2 q1)
  have K1 := Hd.mk hA1
  have K2 := Hd.mk hA2
  have K3 := Hd.mk hA3
  have K4 := Hd.mk hA4
  have K5 := Hd.mk hJ1
  have K6 := Hd.mk hJ2
  clear hA1 hA2 hA3 hA4 hJ1 hJ2 HP hq2 ha2 ha1 hb2 hb1
  revert S
  generalize ((w5.alloc (.cells #[.int .i64 1, .int .i64 (q1 : Int), .bool (p.cell q1).set, .string (p.cell q1).data, .bool b1.set, .string b1.data] 29)).alloc (.cells #[.int .i64 1, .int .i64 (q1 : Int), .bool b1.set, .string b1.data, .bool b2.set, .string b2.data] 29)).drew.drew = w6
  obtain ⟨g5, hg5⟩ : ∃ g5, g5 = w5.heap.size := ⟨_, rfl⟩
  rw [← hg5]
  clear hg5 w5
  intro S
  obtain ⟨r0, l0, n0, m0⟩ := S.at (g5 + 1) (#[.int .i64 1, .int .i64 (q1 : Int), .bool b1.set, .string b1.data, .bool b2.set, .string b2.data]) 29 (by simp)
  obtain ⟨r1, l1, n1, m1⟩ := S.at (g5) (#[.int .i64 1, .int .i64 (q1 : Int), .bool (p.cell q1).set, .string (p.cell q1).data, .bool b1.set, .string b1.data]) 29 (by simp)
  obtain ⟨r2, l2, n2, m2⟩ := S.at (g) (pgA p) 27 (by simp)
  have HS := Hd.mk S
  clear S
  go_wp2_with fail
  refine (apply27 p ⟨1, (q1 : Int), p.cell q1, b1⟩ _).mono ?_
  rw [K1.out]
  rintro e w7 ⟨rfl, hb⟩
  clear r0 l0 n0 m0 r1 l1 n1 m1 r2 l2 n2 m2
  have S := HS.out
  clear HS
  replace S := S.step hb
  clear hb
  obtain ⟨r0, l0, n0, m0⟩ := S.at (g5 + 1) (#[.int .i64 1, .int .i64 (q1 : Int), .bool b1.set, .string b1.data, .bool b2.set, .string b2.data]) 29 (by simp)
  obtain ⟨r1, l1, n1, m1⟩ := S.at (g5) (#[.int .i64 1, .int .i64 (q1 : Int), .bool (p.cell q1).set, .string (p.cell q1).data, .bool b1.set, .string b1.data]) 29 (by simp)
  obtain ⟨r2, l2, n2, m2⟩ := S.at (g) (pgA p) 27 (by simp)
  have HS := Hd.mk S
  clear S
  go_wp2_with fail
  refine (apply27 (p.upd q1 b1) ⟨1, (q1 : Int), b1, b2⟩ _).mono ?_
  rw [K2.out]
  rintro e w8 ⟨rfl, hb⟩
  clear r0 l0 n0 m0 r1 l1 n1 m1 r2 l2 n2 m2
  have S := HS.out
  clear HS
  replace S := (S.alloc (pgA (p.upd q1 b1)) 27 w7.heap.size rfl).step hb
  clear hb
  obtain ⟨r0, l0, n0, m0⟩ := S.at (w7.heap.size) (pgA (p.upd q1 b1)) 27 (by simp)
  obtain ⟨r1, l1, n1, m1⟩ := S.at (g5 + 1) (#[.int .i64 1, .int .i64 (q1 : Int), .bool b1.set, .string b1.data, .bool b2.set, .string b2.data]) 29 (by simp)
  obtain ⟨r2, l2, n2, m2⟩ := S.at (g5) (#[.int .i64 1, .int .i64 (q1 : Int), .bool (p.cell q1).set, .string (p.cell q1).data, .bool b1.set, .string b1.data]) 29 (by simp)
  obtain ⟨r3, l3, n3, m3⟩ := S.at (g) (pgA p) 27 (by simp)
  have HS := Hd.mk S
  clear S
  go_wp2_with fail
  clear r0 l0 n0 m0 r1 l1 n1 m1 r2 l2 n2 m2 r3 l3 n3 m3
  have S := HS.out
  clear HS
  replace S := S.alloc (pgA (p.upd q1 b2)) 27 w8.heap.size rfl
  have HS := Hd.mk S
  clear S
  go_cut [11, 12] (fun v u W => ∃ b : Nat, v = .pointer (some ⟨b, 0, none⟩) ∧ u = .int .i64 0 ∧ Hd (St w.heap.size w ((b, pgA p, 27) :: [(w8.heap.size, pgA (p.upd q1 b2), 27), (w7.heap.size, pgA (p.upd q1 b1), 27), (g5 + 1, #[.int .i64 1, .int .i64 (q1 : Int), .bool b1.set, .string b1.data, .bool b2.set, .string b2.data], 29), (g5, #[.int .i64 1, .int .i64 (q1 : Int), .bool (p.cell q1).set, .string (p.cell q1).data, .bool b1.set, .string b1.data], 29), (g, pgA p, 27)]) W))
  case first =>
    have hw : ∀ W : World, St w.heap.size w [(w8.heap.size, pgA (p.upd q1 b2), 27), (w7.heap.size, pgA (p.upd q1 b1), 27), (g5 + 1, #[.int .i64 1, .int .i64 (q1 : Int), .bool b1.set, .string b1.data, .bool b2.set, .string b2.data], 29), (g5, #[.int .i64 1, .int .i64 (q1 : Int), .bool (p.cell q1).set, .string (p.cell q1).data, .bool b1.set, .string b1.data], 29), (g, pgA p, 27)] W → Hd (St w.heap.size w [(w8.heap.size, pgA (p.upd q1 b2), 27), (w7.heap.size, pgA (p.upd q1 b1), 27), (g5 + 1, #[.int .i64 1, .int .i64 (q1 : Int), .bool b1.set, .string b1.data, .bool b2.set, .string b2.data], 29), (g5, #[.int .i64 1, .int .i64 (q1 : Int), .bool (p.cell q1).set, .string (p.cell q1).data, .bool b1.set, .string b1.data], 29), (g, pgA p, 27)] W) ∧ rowAt W (w7.heap.size) = pgA (p.upd q1 b1) ∧ rowAt W (g5) = #[.int .i64 1, .int .i64 (q1 : Int), .bool (p.cell q1).set, .string (p.cell q1).data, .bool b1.set, .string b1.data] :=
      fun W hW => ⟨⟨hW⟩, (hW.at (w7.heap.size) (pgA (p.upd q1 b1)) 27 (by simp)).1, (hW.at (g5) (#[.int .i64 1, .int .i64 (q1 : Int), .bool (p.cell q1).set, .string (p.cell q1).data, .bool b1.set, .string b1.data]) 29 (by simp)).1⟩
    have HW := Hd.mk hw
    clear hw
    go_region_held3 (fun W => Hd (St w.heap.size w [(w8.heap.size, pgA (p.upd q1 b2), 27), (w7.heap.size, pgA (p.upd q1 b1), 27), (g5 + 1, #[.int .i64 1, .int .i64 (q1 : Int), .bool b1.set, .string b1.data, .bool b2.set, .string b2.data], 29), (g5, #[.int .i64 1, .int .i64 (q1 : Int), .bool (p.cell q1).set, .string (p.cell q1).data, .bool b1.set, .string b1.data], 29), (g, pgA p, 27)] W) ∧ rowAt W (w7.heap.size) = pgA (p.upd q1 b1) ∧ rowAt W (g5) = #[.int .i64 1, .int .i64 (q1 : Int), .bool (p.cell q1).set, .string (p.cell q1).data, .bool b1.set, .string b1.data])
      (exact HW.out _ (HS.out.step (by repeat (first | exact Below.refl _ _ | refine Below.drew ?_ | refine Below.alloc ?_ (by first | omega | (simp <;> omega)) _ | refine Go.below_setRow ?_ (by first | omega | (simp <;> omega)) _ | refine Below.trans ?_ (hb11.mono (by first | omega | (simp <;> omega))) | refine Below.trans ?_ (hb10.mono (by first | omega | (simp <;> omega))) | refine Below.trans ?_ (hb9.mono (by first | omega | (simp <;> omega)))))))
      (first | (go_at_call 22; refine (inverse22 ⟨1, (q1 : Int), p.cell q1, b1⟩ _).mono ?_; rintro e W9 ⟨rfl, hb9⟩; have hq9 := bfacts2 hb9; have sz9 := hb9.size; (try simp only [World.size_alloc, World.size_drew] at sz9); simp only [Ch.v, Ch.inv]) | (go_at_call 27; refine (apply27 (p.upd q1 b1) ⟨1, (q1 : Int), b1, p.cell q1⟩ _).mono ?_; rw [K3.out]; rintro e W10 ⟨rfl, hb10⟩; have hq10 := bfacts2 hb10; have sz10 := hb10.size; (try simp only [World.size_alloc, World.size_drew] at sz10); first | (have nb := pend_first hb9 hb10; have nr := (blk nb).1; have nl := (blk nb).2.1; replace nb := Hd.mk nb) | (have nb := pend_mid hb10; have nr := (blk nb).1; have nl := (blk nb).2.1; replace nb := Hd.mk nb) | skip))
    all_goals
      go_wp2_with fail
      go_meet
      case rel => exact ⟨_, rfl, rfl, ⟨(HS.out.step (by repeat (first | exact Below.refl _ _ | refine Below.drew ?_ | refine Below.alloc ?_ (by first | omega | (simp <;> omega)) _ | refine Go.below_setRow ?_ (by first | omega | (simp <;> omega)) _ | refine Below.trans ?_ (hb11.mono (by first | omega | (simp <;> omega))) | refine Below.trans ?_ (hb10.mono (by first | omega | (simp <;> omega))) | refine Below.trans ?_ (hb9.mono (by first | omega | (simp <;> omega)))))).cons (by first | exact heap_alloc_new _ _ | exact setRow_heap _ _ _ _ _ _ nb.out)⟩⟩
  case' rest =>
    clear HS
    obtain ⟨b11, rfl, rfl, hS⟩ := hcut
    obtain ⟨wc11, rfl⟩ : ∃ W : World, W = wc := ⟨_, rfl⟩
    have S := hS.out
    clear hS
  try skip
  obtain ⟨r0, l0, n0, m0⟩ := S.at (b11) (pgA p) 27 (by simp)
  obtain ⟨r1, l1, n1, m1⟩ := S.at (w8.heap.size) (pgA (p.upd q1 b2)) 27 (by simp)
  obtain ⟨r2, l2, n2, m2⟩ := S.at (w7.heap.size) (pgA (p.upd q1 b1)) 27 (by simp)
  obtain ⟨r3, l3, n3, m3⟩ := S.at (g5 + 1) (#[.int .i64 1, .int .i64 (q1 : Int), .bool b1.set, .string b1.data, .bool b2.set, .string b2.data]) 29 (by simp)
  obtain ⟨r4, l4, n4, m4⟩ := S.at (g5) (#[.int .i64 1, .int .i64 (q1 : Int), .bool (p.cell q1).set, .string (p.cell q1).data, .bool b1.set, .string b1.data]) 29 (by simp)
  obtain ⟨r5, l5, n5, m5⟩ := S.at (g) (pgA p) 27 (by simp)
  have HS := Hd.mk S
  clear S
  go_wp2_with fail
  refine (join18 ⟨1, (q1 : Int), p.cell q1, b1⟩ ⟨1, (q1 : Int), b1, b2⟩ _).mono ?_
  rw [K5.out]
  rintro e w12 ⟨rfl, hb⟩
  simp only [Ch.v]
  clear r0 l0 n0 m0 r1 l1 n1 m1 r2 l2 n2 m2 r3 l3 n3 m3 r4 l4 n4 m4 r5 l5 n5 m5
  have S := HS.out
  clear HS
  replace S := S.step hb
  clear hb
  obtain ⟨r0, l0, n0, m0⟩ := S.at (b11) (pgA p) 27 (by simp)
  obtain ⟨r1, l1, n1, m1⟩ := S.at (w8.heap.size) (pgA (p.upd q1 b2)) 27 (by simp)
  obtain ⟨r2, l2, n2, m2⟩ := S.at (w7.heap.size) (pgA (p.upd q1 b1)) 27 (by simp)
  obtain ⟨r3, l3, n3, m3⟩ := S.at (g5 + 1) (#[.int .i64 1, .int .i64 (q1 : Int), .bool b1.set, .string b1.data, .bool b2.set, .string b2.data]) 29 (by simp)
  obtain ⟨r4, l4, n4, m4⟩ := S.at (g5) (#[.int .i64 1, .int .i64 (q1 : Int), .bool (p.cell q1).set, .string (p.cell q1).data, .bool b1.set, .string b1.data]) 29 (by simp)
  obtain ⟨r5, l5, n5, m5⟩ := S.at (g) (pgA p) 27 (by simp)
  have HS := Hd.mk S
  clear S
  go_wp2_with fail
  refine (apply27 p ⟨1, (q1 : Int), p.cell q1, b2⟩ _).mono ?_
  rw [K4.out]
  rintro e w13 ⟨rfl, hb⟩
  clear r0 l0 n0 m0 r1 l1 n1 m1 r2 l2 n2 m2 r3 l3 n3 m3 r4 l4 n4 m4 r5 l5 n5 m5
  have S := HS.out
  clear HS
  replace S := (S.alloc (#[.int .i64 1, .int .i64 (q1 : Int), .bool (p.cell q1).set, .string (p.cell q1).data, .bool b2.set, .string b2.data]) 29 w12.heap.size rfl).step hb
  clear hb
  obtain ⟨r0, l0, n0, m0⟩ := S.at (w12.heap.size) (#[.int .i64 1, .int .i64 (q1 : Int), .bool (p.cell q1).set, .string (p.cell q1).data, .bool b2.set, .string b2.data]) 29 (by simp)
  obtain ⟨r1, l1, n1, m1⟩ := S.at (b11) (pgA p) 27 (by simp)
  obtain ⟨r2, l2, n2, m2⟩ := S.at (w8.heap.size) (pgA (p.upd q1 b2)) 27 (by simp)
  obtain ⟨r3, l3, n3, m3⟩ := S.at (w7.heap.size) (pgA (p.upd q1 b1)) 27 (by simp)
  obtain ⟨r4, l4, n4, m4⟩ := S.at (g5 + 1) (#[.int .i64 1, .int .i64 (q1 : Int), .bool b1.set, .string b1.data, .bool b2.set, .string b2.data]) 29 (by simp)
  obtain ⟨r5, l5, n5, m5⟩ := S.at (g5) (#[.int .i64 1, .int .i64 (q1 : Int), .bool (p.cell q1).set, .string (p.cell q1).data, .bool b1.set, .string b1.data]) 29 (by simp)
  obtain ⟨r6, l6, n6, m6⟩ := S.at (g) (pgA p) 27 (by simp)
  have HS := Hd.mk S
  clear S
  go_wp2_with fail
  clear r0 l0 n0 m0 r1 l1 n1 m1 r2 l2 n2 m2 r3 l3 n3 m3 r4 l4 n4 m4 r5 l5 n5 m5 r6 l6 n6 m6
  have S := HS.out
  clear HS
  replace S := S.alloc (pgA (p.upd q1 b2)) 27 w13.heap.size rfl
  have HS := Hd.mk S
  clear S
  go_cut [17, 18] (fun v u W => ∃ b : Nat, v = .pointer (some ⟨b, 0, none⟩) ∧ u = .int .i64 0 ∧ Hd (St w.heap.size w ((b, #[.int .i64 1, .int .i64 (q1 : Int), .bool b2.set, .string b2.data, .bool (p.cell q1).set, .string (p.cell q1).data], 29) :: [(w13.heap.size, pgA (p.upd q1 b2), 27), (w12.heap.size, #[.int .i64 1, .int .i64 (q1 : Int), .bool (p.cell q1).set, .string (p.cell q1).data, .bool b2.set, .string b2.data], 29), (b11, pgA p, 27), (w8.heap.size, pgA (p.upd q1 b2), 27), (w7.heap.size, pgA (p.upd q1 b1), 27), (g5 + 1, #[.int .i64 1, .int .i64 (q1 : Int), .bool b1.set, .string b1.data, .bool b2.set, .string b2.data], 29), (g5, #[.int .i64 1, .int .i64 (q1 : Int), .bool (p.cell q1).set, .string (p.cell q1).data, .bool b1.set, .string b1.data], 29), (g, pgA p, 27)]) W))
  case first =>
    have hw : ∀ W : World, St w.heap.size w [(w13.heap.size, pgA (p.upd q1 b2), 27), (w12.heap.size, #[.int .i64 1, .int .i64 (q1 : Int), .bool (p.cell q1).set, .string (p.cell q1).data, .bool b2.set, .string b2.data], 29), (b11, pgA p, 27), (w8.heap.size, pgA (p.upd q1 b2), 27), (w7.heap.size, pgA (p.upd q1 b1), 27), (g5 + 1, #[.int .i64 1, .int .i64 (q1 : Int), .bool b1.set, .string b1.data, .bool b2.set, .string b2.data], 29), (g5, #[.int .i64 1, .int .i64 (q1 : Int), .bool (p.cell q1).set, .string (p.cell q1).data, .bool b1.set, .string b1.data], 29), (g, pgA p, 27)] W → Hd (St w.heap.size w [(w13.heap.size, pgA (p.upd q1 b2), 27), (w12.heap.size, #[.int .i64 1, .int .i64 (q1 : Int), .bool (p.cell q1).set, .string (p.cell q1).data, .bool b2.set, .string b2.data], 29), (b11, pgA p, 27), (w8.heap.size, pgA (p.upd q1 b2), 27), (w7.heap.size, pgA (p.upd q1 b1), 27), (g5 + 1, #[.int .i64 1, .int .i64 (q1 : Int), .bool b1.set, .string b1.data, .bool b2.set, .string b2.data], 29), (g5, #[.int .i64 1, .int .i64 (q1 : Int), .bool (p.cell q1).set, .string (p.cell q1).data, .bool b1.set, .string b1.data], 29), (g, pgA p, 27)] W) ∧ rowAt W (g5 + 1) = #[.int .i64 1, .int .i64 (q1 : Int), .bool b1.set, .string b1.data, .bool b2.set, .string b2.data] ∧ rowAt W (g5) = #[.int .i64 1, .int .i64 (q1 : Int), .bool (p.cell q1).set, .string (p.cell q1).data, .bool b1.set, .string b1.data] :=
      fun W hW => ⟨⟨hW⟩, (hW.at (g5 + 1) (#[.int .i64 1, .int .i64 (q1 : Int), .bool b1.set, .string b1.data, .bool b2.set, .string b2.data]) 29 (by simp)).1, (hW.at (g5) (#[.int .i64 1, .int .i64 (q1 : Int), .bool (p.cell q1).set, .string (p.cell q1).data, .bool b1.set, .string b1.data]) 29 (by simp)).1⟩
    have HW := Hd.mk hw
    clear hw
    go_region_held3 (fun W => Hd (St w.heap.size w [(w13.heap.size, pgA (p.upd q1 b2), 27), (w12.heap.size, #[.int .i64 1, .int .i64 (q1 : Int), .bool (p.cell q1).set, .string (p.cell q1).data, .bool b2.set, .string b2.data], 29), (b11, pgA p, 27), (w8.heap.size, pgA (p.upd q1 b2), 27), (w7.heap.size, pgA (p.upd q1 b1), 27), (g5 + 1, #[.int .i64 1, .int .i64 (q1 : Int), .bool b1.set, .string b1.data, .bool b2.set, .string b2.data], 29), (g5, #[.int .i64 1, .int .i64 (q1 : Int), .bool (p.cell q1).set, .string (p.cell q1).data, .bool b1.set, .string b1.data], 29), (g, pgA p, 27)] W) ∧ rowAt W (g5 + 1) = #[.int .i64 1, .int .i64 (q1 : Int), .bool b1.set, .string b1.data, .bool b2.set, .string b2.data] ∧ rowAt W (g5) = #[.int .i64 1, .int .i64 (q1 : Int), .bool (p.cell q1).set, .string (p.cell q1).data, .bool b1.set, .string b1.data])
      (exact HW.out _ (HS.out.step (by repeat (first | exact Below.refl _ _ | refine Below.drew ?_ | refine Below.alloc ?_ (by first | omega | (simp <;> omega)) _ | refine Go.below_setRow ?_ (by first | omega | (simp <;> omega)) _ | refine Below.trans ?_ (hb11.mono (by first | omega | (simp <;> omega))) | refine Below.trans ?_ (hb10.mono (by first | omega | (simp <;> omega))) | refine Below.trans ?_ (hb9.mono (by first | omega | (simp <;> omega)))))))
      (first | (go_at_call_of 22 (Value.agg #[Value.int IntKind.i64 1, Value.int IntKind.i64 (q1 : Int), Value.bool b1.set, Value.string b1.data, Value.bool b2.set, Value.string b2.data]); refine (inverse22 ⟨1, (q1 : Int), b1, b2⟩ _).mono ?_; rintro e W9 ⟨rfl, hb9⟩; have hq9 := bfacts2 hb9; have sz9 := hb9.size; (try simp only [World.size_alloc, World.size_drew] at sz9); (try simp only [Ch.v, Ch.inv])) | (go_at_call_of 22 (Value.agg #[Value.int IntKind.i64 1, Value.int IntKind.i64 (q1 : Int), Value.bool (p.cell q1).set, Value.string (p.cell q1).data, Value.bool b1.set, Value.string b1.data]); refine (inverse22 ⟨1, (q1 : Int), p.cell q1, b1⟩ _).mono ?_; rintro e W10 ⟨rfl, hb10⟩; have hq10 := bfacts2 hb10; have sz10 := hb10.size; (try simp only [World.size_alloc, World.size_drew] at sz10); (try simp only [Ch.v, Ch.inv])) | (go_at_call 18; refine (join18 ⟨1, (q1 : Int), b2, b1⟩ ⟨1, (q1 : Int), b1, p.cell q1⟩ _).mono ?_; rw [K6.out]; rintro e W11 ⟨rfl, hb11⟩; have hq11 := bfacts2 hb11; have sz11 := hb11.size; (try simp only [World.size_alloc, World.size_drew] at sz11); (try simp only [Ch.v, Ch.inv]); first | (have nb := carryB (carryB (pendA hb9) hb10) hb11; have nr := (blk nb).1; have nl := (blk nb).2.1; replace nb := Hd.mk nb) | (have nb := carryB (pend_mid hb10) hb11; have nr := (blk nb).1; have nl := (blk nb).2.1; replace nb := Hd.mk nb) | (have nb := pend_mid hb11; have nr := (blk nb).1; have nl := (blk nb).2.1; replace nb := Hd.mk nb) | skip))
    all_goals
      go_wp2_with fail
      go_meet
      case rel => exact ⟨_, rfl, rfl, ⟨(HS.out.step (by repeat (first | exact Below.refl _ _ | refine Below.drew ?_ | refine Below.alloc ?_ (by first | omega | (simp <;> omega)) _ | refine Go.below_setRow ?_ (by first | omega | (simp <;> omega)) _ | refine Below.trans ?_ (hb11.mono (by first | omega | (simp <;> omega))) | refine Below.trans ?_ (hb10.mono (by first | omega | (simp <;> omega))) | refine Below.trans ?_ (hb9.mono (by first | omega | (simp <;> omega)))))).cons (by first | exact heap_alloc_new _ _ | exact setRow_heap _ _ _ _ _ _ nb.out)⟩⟩
  case' rest =>
    clear HS
    obtain ⟨b17, rfl, rfl, hS⟩ := hcut
    obtain ⟨wc17, rfl⟩ : ∃ W : World, W = wc := ⟨_, rfl⟩
    have S := hS.out
    clear hS
  try skip
  obtain ⟨r0, l0, n0, m0⟩ := S.at (b17) (#[.int .i64 1, .int .i64 (q1 : Int), .bool b2.set, .string b2.data, .bool (p.cell q1).set, .string (p.cell q1).data]) 29 (by simp)
  obtain ⟨r1, l1, n1, m1⟩ := S.at (w13.heap.size) (pgA (p.upd q1 b2)) 27 (by simp)
  obtain ⟨r2, l2, n2, m2⟩ := S.at (w12.heap.size) (#[.int .i64 1, .int .i64 (q1 : Int), .bool (p.cell q1).set, .string (p.cell q1).data, .bool b2.set, .string b2.data]) 29 (by simp)
  obtain ⟨r3, l3, n3, m3⟩ := S.at (b11) (pgA p) 27 (by simp)
  obtain ⟨r4, l4, n4, m4⟩ := S.at (w8.heap.size) (pgA (p.upd q1 b2)) 27 (by simp)
  obtain ⟨r5, l5, n5, m5⟩ := S.at (w7.heap.size) (pgA (p.upd q1 b1)) 27 (by simp)
  obtain ⟨r6, l6, n6, m6⟩ := S.at (g5 + 1) (#[.int .i64 1, .int .i64 (q1 : Int), .bool b1.set, .string b1.data, .bool b2.set, .string b2.data]) 29 (by simp)
  obtain ⟨r7, l7, n7, m7⟩ := S.at (g5) (#[.int .i64 1, .int .i64 (q1 : Int), .bool (p.cell q1).set, .string (p.cell q1).data, .bool b1.set, .string b1.data]) 29 (by simp)
  obtain ⟨r8, l8, n8, m8⟩ := S.at (g) (pgA p) 27 (by simp)
  have HS := Hd.mk S
  clear S
  have e1 := pgEq_refl p
  have e2 := pgEq_refl (p.upd q1 b2)
  go_wp2_with fail
  clear r0 l0 n0 m0 r1 l1 n1 m1 r2 l2 n2 m2 r3 l3 n3 m3 r4 l4 n4 m4 r5 l5 n5 m5 r6 l6 n6 m6 r7 l7 n7 m7 r8 l8 n8 m8
  have S := HS.out
  clear HS
  have HS := Hd.mk S
  clear S
  have hw : ∀ W : World, St w.heap.size w [(b17, #[.int .i64 1, .int .i64 (q1 : Int), .bool b2.set, .string b2.data, .bool (p.cell q1).set, .string (p.cell q1).data], 29), (w13.heap.size, pgA (p.upd q1 b2), 27), (w12.heap.size, #[.int .i64 1, .int .i64 (q1 : Int), .bool (p.cell q1).set, .string (p.cell q1).data, .bool b2.set, .string b2.data], 29), (b11, pgA p, 27), (w8.heap.size, pgA (p.upd q1 b2), 27), (w7.heap.size, pgA (p.upd q1 b1), 27), (g5 + 1, #[.int .i64 1, .int .i64 (q1 : Int), .bool b1.set, .string b1.data, .bool b2.set, .string b2.data], 29), (g5, #[.int .i64 1, .int .i64 (q1 : Int), .bool (p.cell q1).set, .string (p.cell q1).data, .bool b1.set, .string b1.data], 29), (g, pgA p, 27)] W → Hd (St w.heap.size w [(b17, #[.int .i64 1, .int .i64 (q1 : Int), .bool b2.set, .string b2.data, .bool (p.cell q1).set, .string (p.cell q1).data], 29), (w13.heap.size, pgA (p.upd q1 b2), 27), (w12.heap.size, #[.int .i64 1, .int .i64 (q1 : Int), .bool (p.cell q1).set, .string (p.cell q1).data, .bool b2.set, .string b2.data], 29), (b11, pgA p, 27), (w8.heap.size, pgA (p.upd q1 b2), 27), (w7.heap.size, pgA (p.upd q1 b1), 27), (g5 + 1, #[.int .i64 1, .int .i64 (q1 : Int), .bool b1.set, .string b1.data, .bool b2.set, .string b2.data], 29), (g5, #[.int .i64 1, .int .i64 (q1 : Int), .bool (p.cell q1).set, .string (p.cell q1).data, .bool b1.set, .string b1.data], 29), (g, pgA p, 27)] W) ∧ rowAt W (b11) = pgA p ∧ rowAt W (g) = pgA p ∧ rowAt W (w13.heap.size) = pgA (p.upd q1 b2) ∧ rowAt W (w8.heap.size) = pgA (p.upd q1 b2) ∧ rowAt W (b17) = #[.int .i64 1, .int .i64 (q1 : Int), .bool b2.set, .string b2.data, .bool (p.cell q1).set, .string (p.cell q1).data] ∧ rowAt W (w12.heap.size) = #[.int .i64 1, .int .i64 (q1 : Int), .bool (p.cell q1).set, .string (p.cell q1).data, .bool b2.set, .string b2.data] :=
    fun W hW => ⟨⟨hW⟩, (hW.at (b11) (pgA p) 27 (by simp)).1, (hW.at (g) (pgA p) 27 (by simp)).1, (hW.at (w13.heap.size) (pgA (p.upd q1 b2)) 27 (by simp)).1, (hW.at (w8.heap.size) (pgA (p.upd q1 b2)) 27 (by simp)).1, (hW.at (b17) (#[.int .i64 1, .int .i64 (q1 : Int), .bool b2.set, .string b2.data, .bool (p.cell q1).set, .string (p.cell q1).data]) 29 (by simp)).1, (hW.at (w12.heap.size) (#[.int .i64 1, .int .i64 (q1 : Int), .bool (p.cell q1).set, .string (p.cell q1).data, .bool b2.set, .string b2.data]) 29 (by simp)).1⟩
  have HW := Hd.mk hw
  clear hw
  go_region_held3 (fun W => Hd (St w.heap.size w [(b17, #[.int .i64 1, .int .i64 (q1 : Int), .bool b2.set, .string b2.data, .bool (p.cell q1).set, .string (p.cell q1).data], 29), (w13.heap.size, pgA (p.upd q1 b2), 27), (w12.heap.size, #[.int .i64 1, .int .i64 (q1 : Int), .bool (p.cell q1).set, .string (p.cell q1).data, .bool b2.set, .string b2.data], 29), (b11, pgA p, 27), (w8.heap.size, pgA (p.upd q1 b2), 27), (w7.heap.size, pgA (p.upd q1 b1), 27), (g5 + 1, #[.int .i64 1, .int .i64 (q1 : Int), .bool b1.set, .string b1.data, .bool b2.set, .string b2.data], 29), (g5, #[.int .i64 1, .int .i64 (q1 : Int), .bool (p.cell q1).set, .string (p.cell q1).data, .bool b1.set, .string b1.data], 29), (g, pgA p, 27)] W) ∧ rowAt W (b11) = pgA p ∧ rowAt W (g) = pgA p ∧ rowAt W (w13.heap.size) = pgA (p.upd q1 b2) ∧ rowAt W (w8.heap.size) = pgA (p.upd q1 b2) ∧ rowAt W (b17) = #[.int .i64 1, .int .i64 (q1 : Int), .bool b2.set, .string b2.data, .bool (p.cell q1).set, .string (p.cell q1).data] ∧ rowAt W (w12.heap.size) = #[.int .i64 1, .int .i64 (q1 : Int), .bool (p.cell q1).set, .string (p.cell q1).data, .bool b2.set, .string b2.data])
    (exact HW.out _ (HS.out.step (by repeat (first | exact Below.refl _ _ | refine Below.drew ?_ | refine Below.alloc ?_ (by first | omega | (simp <;> omega)) _ | refine Go.below_setRow ?_ (by first | omega | (simp <;> omega)) _ | refine Below.trans ?_ (hb11.mono (by first | omega | (simp <;> omega))) | refine Below.trans ?_ (hb10.mono (by first | omega | (simp <;> omega))) | refine Below.trans ?_ (hb9.mono (by first | omega | (simp <;> omega)))))))
    (first | (go_at_call 22; refine (inverse22 ⟨1, (q1 : Int), p.cell q1, b2⟩ _).mono ?_; rintro e W9 ⟨rfl, hb9⟩; have hq9 := bfacts2 hb9; have sz9 := hb9.size; (try simp only [World.size_alloc, World.size_drew] at sz9); (try simp only [Ch.v, Ch.inv])))
  all_goals
    go_wp2_with fail
    go_ret
    exact ⟨rfl, (HS.out.step (by repeat (first | exact Below.refl _ _ | refine Below.drew ?_ | refine Below.alloc ?_ (by first | omega | (simp <;> omega)) _ | refine Go.below_setRow ?_ (by first | omega | (simp <;> omega)) _ | refine Below.trans ?_ (hb11.mono (by first | omega | (simp <;> omega))) | refine Below.trans ?_ (hb10.mono (by first | omega | (simp <;> omega))) | refine Below.trans ?_ (hb9.mono (by first | omega | (simp <;> omega)))))).below⟩

end Go.Proofs.Ytiebdcejlkeoiaa
