import Derived.Test.YtcjmejokgoefkaaGreatW26
namespace Go.Proofs.YtcjmejokgoefkaaGreat
open Go.RowKit Go.Shelf
set_option linter.unusedSimpArgs false
set_option linter.unusedVariables false
attribute [local go_sem] Oper.semAt_some
theorem own_row' {β : Type} (B : Nat) (t : TypeId) (f : β → Array Value) : Own (fun s W => W.heap[B]? = some (.cells (f s) t (0, 0))) := fun s X Y row hs hg hrow => by
  refine (hg.block B (Array.getElem?_eq_some_iff.1 hs).1 (fun e' => ?_)).trans hs
  obtain ⟨o, ho, hc⟩ := hrow B e'.symm
  rw [hs] at ho
  cases ho
  cases hc
theorem ownFrom_old {β : Type} {B k : Nat} (hk : k < B) (o : Obj) : OwnFrom B (fun (_ : β) W => W.heap[k]? = some o) := fun _ _ _ row hs hg hr =>
  (hg.block k (Array.getElem?_eq_some_iff.1 hs).1 (fun e => by have := (hr k e.symm).1; omega)).trans hs
theorem old_alloc {W : World} {k : Nat} {o : Obj} (h : W.heap[k]? = some o) (ob : Obj) : (W.alloc ob).heap[k]? = some o := (Below.heap_alloc W ob k (Array.getElem?_eq_some_iff.1 h).1).trans h
theorem app_row {W w9 : World} {tmp : Obj} {row : Option Nat} {B k : Nat} {v' : Value} {o : Obj} (h : W.heap[k]? = some o) (hg : (W.alloc tmp).grownBy w9 row) (hk : some k ≠ row) (hne : k ≠ B) : (w9.setCell ⟨B, 0, none⟩ v').heap[k]? = some o := by
  have hl := (Array.getElem?_eq_some_iff.1 h).1
  exact (Below.heap_setCell _ _ _ _ hne).trans ((hg.block k (by simp; omega) hk).trans (old_alloc h tmp))
theorem KeepsL.of_app {L : List Nat} {W w9 : World} {tmp : Obj} {row : Option Nat} {B : Nat} {v' : Value} (hg : (W.alloc tmp).grownBy w9 row) (hL : ∀ k ∈ L, k < W.heap.size ∧ some k ≠ row ∧ k ≠ B) : KeepsL L W (w9.setCell ⟨B, 0, none⟩ v') := by
  have h1 := hg.size
  refine ⟨by simp at h1 ⊢; omega, fun k hk => ?_⟩
  obtain ⟨a, b, c⟩ := hL k hk
  exact (Below.heap_setCell _ _ _ _ c).trans ((hg.block k (by simp; omega) b).trans (Below.heap_alloc W tmp k a))
theorem ownsRow_base {w : World} {base base' : Nat} {e : TypeId} {size n : Nat} {v : Value} {xs : List Value} (h : w.ownsRow base e size v n xs) (hb : base' ≤ base) : w.ownsRow base' e size v n xs := by
  rcases h with ⟨h1, h2 | ⟨g, cap, cur, h3, h4, h5⟩⟩
  · exact ⟨h1, .inl h2⟩
  · exact ⟨h1, .inr ⟨g, cap, cur, h3, Nat.le_trans hb h4, h5⟩⟩
theorem ownBlock_base {w : World} {base : Nat} {e : TypeId} {size n : Nat} {v : Value} {xs : List Value} (h : w.ownsRow base e size v n xs) {k : Nat} (hk : k < base) : some k ≠ v.ownBlock := by
  rcases h.2 with ⟨rfl, _⟩ | ⟨g, cap, cur, rfl, hg, _⟩
  · simp [Value.ownBlock]
  · simp [Value.ownBlock]; omega
theorem info32r : (Tryz.prog.info? 32).map (fun i => (i.zero, i.size, i.bytes)) = some (some (.agg (pgA zPg)), 34, 400) := by unfold pgA; kernel_rfl
def pgL (pre : List Nat) : List Value := pre.flatMap fun (x : Nat) => (pgA (npg (x : Int))).toList
theorem pgL_snoc (pre : List Nat) (x : Nat) : pgL (pre ++ [x]) = pgL pre ++ (pgA (npg (x : Int))).toList := by simp [pgL]
theorem pgA_len (p : Pg) : (pgA p).toList.length = 34 := by rw [Array.length_toList, pgA_size]
theorem pgA_oneL (p : Pg) : ∀ u ∈ (pgA p).toList, u.oneCell' = true := by
  have h := pgA_one p
  rw [Array.all_eq_true'] at h
  intro u hu
  exact h u (Array.mem_def.2 hu)
@[irreducible] def bsl (t : TypeId) (n : Nat) (parts : Array (Nat × Value)) : Sem Value := Instr.buildSlice t n parts
theorem bsl_eq (t : TypeId) (n : Nat) (parts : Array (Nat × Value)) : Instr.buildSlice t n parts = bsl t n parts := by unfold bsl; rfl
@[go_sem ↓ high] theorem bsl107 (n : Nat) (parts : Array (Nat × Value)) : Instr.buildSlice 107 n parts = bsl 107 n parts := bsl_eq _ _ _
@[go_sem] theorem run_bsl107 (w : World) (p : Pg) : (bsl 107 1 #[(0, .agg (pgA p))]).run Tryz.prog w = .ok (.slice (some ⟨w.heap.size, 0, none⟩) 1 1) (w.alloc (.cells (pgA p) 32)) := by
  rw [← bsl_eq]
  unfold pgA
  kernel_rfl
@[go_sem ↓ high] theorem bsl26 (n : Nat) (parts : Array (Nat × Value)) : Instr.buildSlice 26 n parts = bsl 26 n parts := bsl_eq _ _ _
@[go_sem] theorem run_bsl26 (w : World) : (bsl 26 1 #[(0, .agg caA)]).run Tryz.prog w = .ok (.slice (some ⟨w.heap.size, 0, none⟩) 1 1) (w.alloc (.cells caA 30)) := by
  rw [← bsl_eq]
  unfold caA
  kernel_rfl
theorem ne_heap {W : World} {a b : Nat} {o o' : Obj} (h : W.heap[a]? = some o) (h' : W.heap[b]? = some o') (hne : o ≠ o') : a ≠ b := fun e => by
  subst e
  rw [h] at h'
  exact hne (Option.some.inj h')
theorem results_cc {fn : Func} {p q : Tmp} {ty tz : TypeId} (h : fn.results = #[.cell p ty, .cell q tz]) {tmps : Array Value} {w : World} {a b : Addr} {v u : Value}
    (hp : tmps.getD p undef = .pointer (some a)) (hl : (loadVar ty a).run Tryz.prog w = .ok v w) (hq : tmps.getD q undef = .pointer (some b)) (hm : (loadVar tz b).run Tryz.prog w = .ok u w) : (results fn tmps).run Tryz.prog w = .ok (.tuple #[v, u]) w := by
  simp only [results, h, Array.getD_eq_getD_getElem?] at hp hq ⊢
  simp [hp, hq, asAddr, hl, hm, Sem.run_bind, Result.andThen]
theorem run_takeD {P : Program} {w : World} {b : Nat} (h : w.heap[b]? = some (.deferred (some []))) : (Instr.takeDeferred b).run P w = .ok [] (w.putObj b (.deferred none)) := run_takeDeferred h
theorem info30r : (Tryz.prog.info? 30).map (fun i => (i.zero, i.size, i.bytes)) = some (some (.agg caA), 32, 384) := by unfold caA; kernel_rfl
theorem caA_size : caA.size = 32 := by unfold caA; rfl
theorem caA_len : caA.toList.length = 32 := by rw [Array.length_toList, caA_size]
theorem caA_oneL : ∀ u ∈ caA.toList, u.oneCell' = true := by
  have h : caA.all (·.oneCell') = true := by unfold caA; simp [Value.oneCell']
  rw [Array.all_eq_true'] at h
  intro u hu
  exact h u (Array.mem_def.2 hu)
theorem ld_pg {W : World} {base g n cap : Nat} {xs : List Value} (h : W.ownsRow base 32 34 (.slice (some ⟨g, 0, none⟩) n cap) n xs) (hn : 0 < n) (off : Nat) (p : Pg) (hx : ∀ j, j < 34 → xs[off + j]? = (pgA p)[j]?) :
    (ldv 32 ⟨g, off, none⟩).run Tryz.prog W = .ok (.agg (pgA p)) W := by
  obtain ⟨-, h2 | ⟨g', cap', cur, hv, -, hb, -, -, -, hc⟩⟩ := h
  · omega
  · simp only [Value.slice.injEq, Option.some.injEq, Addr.mk.injEq] at hv
    obtain ⟨⟨rfl, -, -⟩, -, -⟩ := hv
    rw [← ldv_eq]
    have := run_loadVar_mid (P := Tryz.prog) W g off 32 (pgA p).toList _ (fun j v hj => by
      have hjl : j < 34 := by
        have := (List.getElem?_eq_some_iff.1 hj).1
        rw [pgA_len] at this
        exact this
      have h1 := hx j hjl
      rw [← Array.getElem?_toList, hj, ← hc, List.getElem?_take] at h1
      split at h1
      · rw [cell_of_row W g (off + j) _ _ _ hb, ← Array.getElem?_toList]
        exact h1
      · exact absurd h1 (by simp)) Tryz.underlying32 rfl (by rw [info27, pgA_len])
    rw [Array.toArray_toList] at this
    exact this
theorem pgL_two (i j : Nat) (hi : i < 2) (hj : j < 34) : (pgL [0, 1])[34 * i + j]? = (pgA (npg (i : Int)))[j]? := by
  have e : pgL [0, 1] = (pgA (npg ((0 : Nat) : Int))).toList ++ (pgA (npg ((1 : Nat) : Int))).toList := by simp [pgL]
  rw [e]
  obtain rfl | rfl : i = 0 ∨ i = 1 := by omega
  · rw [List.getElem?_append_left (by rw [pgA_len]; omega), ← Array.getElem?_toList]
    simp
  · rw [List.getElem?_append_right (by rw [pgA_len]; omega), ← Array.getElem?_toList, pgA_len]
    congr 1
    omega
/-- What lies behind the first loop. -/
structure CF (gr gp cp gb cb : Nat) (w : World) (B1 N D g cap : Nat) (W : World) : Prop where
  bl : Boxed W B1 107 (.slice (some ⟨g, 0, none⟩) 2 cap)
  row : W.ownsRow N 32 34 (.slice (some ⟨g, 0, none⟩) 2 cap) 2 (pgL [0, 1])
  k0 : W.heap[w.heap.size]? = some (.cells (dbA gr gp cp gb cb) 84 (0, 0))
  k1 : W.heap[w.heap.size + 1]? = some (.cells #[.slice none 0 0] 26 (0, 0))
  k2 : W.heap[w.heap.size + 1 + 1]? = some (.cells #[.int .i64 0] 85 (0, 0))
  below : Below w.heap.size w W
  d : W.heap[D]? = some (.deferred (some []))
section
variable {gr gp cp gb cb : Nat} {w W W' : World} {B1 N D g cap : Nat}
theorem CF.grown (h : CF gr gp cp gb cb w B1 N D g cap W) {row : Option Nat} (hg : W.grownBy W' row) (hr : ∀ r, row = some r → r ≠ D ∧ w.heap.size ≤ r ∧ ∃ o : Obj, W.heap[r]? = some o ∧ o.isCells = false) : CF gr gp cp gb cb w B1 N D g cap W' := by
  have old : ∀ (k : Nat) (c : Array Value) (t : TypeId), W.heap[k]? = some (Obj.cells c t (0, 0)) → W'.heap[k]? = some (Obj.cells c t (0, 0)) := fun k c t hk => by
    refine (hg.block k (Array.getElem?_eq_some_iff.1 hk).1 (fun e => ?_)).trans hk
    obtain ⟨-, -, o, ho, hc⟩ := hr k e.symm
    rw [hk] at ho; cases ho; cases hc
  refine ⟨old _ _ _ h.bl, h.row.kept hg ?_, old _ _ _ h.k0, old _ _ _ h.k1, old _ _ _ h.k2, h.below.grown hg h.below.size (fun k e => (hr k e).2.1), (hg.block D (Array.getElem?_eq_some_iff.1 h.d).1 (fun e => (hr D e.symm).1 rfl)).trans h.d⟩
  obtain ⟨-, h2 | ⟨g', cap', cur, hv, -, hb, -⟩⟩ := h.row
  · exact absurd h2.2 (by decide)
  · refine .inr fun e => ?_
    simp only [Value.slice.injEq, Option.some.injEq, Addr.mk.injEq] at hv
    obtain ⟨⟨rfl, -, -⟩, -, -⟩ := hv
    obtain ⟨-, -, o, ho, hc⟩ := hr g (by simpa [Value.ownBlock] using e.symm)
    rw [hb] at ho; cases ho; cases hc
theorem CF.step (h : CF gr gp cp gb cb w B1 N D g cap W) (hb : Below W.heap.size W W') : CF gr gp cp gb cb w B1 N D g cap W' :=
  h.grown (row := none) ⟨hb.os, hb.tape, hb.output, hb.size, fun k hk _ => hb.block k hk⟩ (fun r e => by cases e)
theorem CF.own {β : Type} {B : Nat} (hD : D < B) (hB : w.heap.size ≤ B) : OwnFrom B (fun (_ : β) W => CF gr gp cp gb cb w B1 N D g cap W) := fun _ X Y row hs hg hr =>
  hs.grown hg (fun r e => by obtain ⟨h1, h2⟩ := hr r e; exact ⟨by omega, by omega, h2⟩)
end
set_option maxRecDepth 100000 in
set_option maxHeartbeats 8000000 in
theorem committed11 (gr gp cp gb cb : Nat) (w : World) (hd : DbC gr gp gb w) : Calls Tryz.prog 11 #[.agg (dbA gr gp cp gb cb)] w (fun e w' => ∃ g c, e = .returned (.tuple #[.slice (some ⟨g, 0, none⟩) 2 c, .int .i64 0]) ∧ Below w.heap.size w w') := by
  have HD := Hd.mk hd
  clear hd
  have HS := Hd.mk ((((Pre.nil w).alloc (dbA gr gp cp gb cb) 84 w.heap.size rfl).alloc #[.slice none 0 0] 26 (w.heap.size + 1) (by simp)).alloc #[.int .i64 0] 85 (w.heap.size + 1 + 1) (by simp))
  obtain ⟨i0, hi, hz0, hz1, hz2⟩ := info_parts info32r
  have HI := Hd.mk (And.intro hi (And.intro hz0 (And.intro hz1 hz2)))
  clear hi hz0 hz1 hz2
  refine (callsIn_wide (n := 5)).1 ?_
  refine callsIn_of_wp_marks Tryz.func11 rfl trivial ?_ rfl
  simp only [Tryz.ntmps11, List.size_toArray, List.length_cons, List.length_nil, Nat.reduceAdd, Nat.reduceSub, Array.replicate_succ, Array.replicate_zero, List.push_toArray, List.append_toArray, List.nil_append, List.cons_append]
  gi_wp2_with fail
  refine ⟨trivial, ?_⟩
  refine (callsIn_wide.2 (valid21 gr gp cp gb cb _ (HS.out.c HD.out))).mono ?_
  rintro e w1 ⟨rfl, hb⟩
  replace HS := Hd.mk (HS.out.step hb)
  clear hb
  obtain ⟨b01, b02, b03, b04, b05, b06, b07, b08⟩ := HS.out.facts w.heap.size (dbA gr gp cp gb cb) 84 (by simp)
  gi_wp2_with fail
  refine ⟨trivial, ?_⟩
  refine (callsIn_wide.2 (pages22 gr gp cp gb cb _)).mono ?_
  rintro e w2 ⟨rfl, rfl⟩
  gi_wp2_with fail
  have g1 : gr < w.heap.size := (Array.getElem?_eq_some_iff.1 HD.out.r).1
  have g2 : gp < w.heap.size := HD.out.p.1
  have g3 : gb < w.heap.size := HD.out.b.1
  obtain ⟨W0, hW0⟩ : ∃ W0, (w1.alloc (.cells #[.slice none 0 0] 107)).alloc (.cells (dbA gr gp cp gb cb) 84) = W0 := ⟨_, rfl⟩
  have bL := (Boxed.new w1 107 (.slice none 0 0)).alloc (.cells (dbA gr gp cp gb cb) 84)
  have S0 := (HS.out.alloc #[.slice none 0 0] 107 w1.heap.size rfl).alloc (dbA gr gp cp gb cb) 84 (w1.heap.size + 1) (by simp)
  have hsz : ((w1.alloc (.cells #[.slice none 0 0] 107)).alloc (.cells (dbA gr gp cp gb cb) 84)).heap.size = w1.heap.size + 2 := by simp
  rw [hW0] at bL S0 hsz ⊢
  clear hW0
  have hd0 : DbAt (w1.heap.size + 1) gr gp cp gb cb W0 := ⟨(S0.mem (w1.heap.size + 1, dbA gr gp cp gb cb, 84) (by simp)).2, S0.c HD.out⟩
  have hB0 := S0.below
  have m0 := (S0.mem (w.heap.size, dbA gr gp cp gb cb, 84) (by simp)).2
  have m1 := (S0.mem (w.heap.size + 1, #[.slice none 0 0], 26) (by simp)).2
  have m2 := (S0.mem (w.heap.size + 1 + 1, #[.int .i64 0], 85) (by simp)).2
  dsimp only at m0 m1 m2
  have l2 := (S0.lt (x := (w.heap.size + 1 + 1, #[.int .i64 0], 85)) (by simp))
  have l3 := HS.out.lt (x := (w.heap.size + 1 + 1, #[.int .i64 0], 85)) (by simp)
  dsimp only at l2 l3
  clear S0 b01 b02 b03 b04 b06 b07 b08
  refine wpIn_rangeFunc_ownH (F := Fence.wide) rfl (by omega) (gf := 45) (lb := #[.pointer (some ⟨w1.heap.size + 1, 0, none⟩)]) rfl trivial (enters_of Tryz.func45 (by kernel_rfl) rfl)
    (pages45 4 (by omega) (w1.heap.size + 1) gr gp cp gb cb W0 hd0) KeepsL.trans (keepsL_b hd0.lt) (Below.refl _ _) (fun _ => rfl)
    (fun pre W => (∃ v, Boxed W w1.heap.size 107 v ∧ W.ownsRow W0.heap.size 32 34 v pre.length (pgL pre) ∧ True) ∧ ((W.heap[w.heap.size]? = some (.cells (dbA gr gp cp gb cb) 84 (0, 0)) ∧ W.heap[w.heap.size + 1]? = some (.cells #[.slice none 0 0] 26 (0, 0)) ∧ W.heap[w.heap.size + 1 + 1]? = some (.cells #[.int .i64 0] 85 (0, 0))) ∧ (Below w.heap.size w W ∧ W0.heap.size ≤ W.heap.size)))
    (fun _ _ _ => False)
    (OwnFrom.and (Own.from (holdsRow_own W0.heap.size w1.heap.size 107 32 34 (fun pre : List Nat => pre.length) (fun pre => pgL pre) (fun _ _ => True)) _)
      (OwnFrom.and (OwnFrom.and (Own.from (own_row' _ _ (fun _ => dbA gr gp cp gb cb)) _) (OwnFrom.and (Own.from (own_row' _ _ (fun _ => #[.slice none 0 0])) _) (Own.from (own_row' _ _ (fun _ => #[.int .i64 0])) _))) (OwnFrom.and (ownFrom_below (Nat.le_refl _) (by omega)) (ownFrom_size _ _))))
    (fun _ _ _ _ _ hs _ _ => hs)
    ⟨⟨_, bL, World.ownsRow_nil _ _ _ _, trivial⟩, ⟨m0, m1, m2⟩, hB0, Nat.le_refl _⟩
    (fun x a' W => ∃ Bx, W.heap[Bx]? = some (.cells (pgA (npg (x : Int))) 32 (0, 0)) ∧ a' = { tmps := #[.agg (dbA gr gp cp gb cb), .pointer (some ⟨w.heap.size, 0, none⟩), .pointer (some ⟨w.heap.size + 1, 0, none⟩), .pointer (some ⟨w.heap.size + 1 + 1, 0, none⟩), .pointer (some ⟨w1.heap.size, 0, none⟩), .pointer (some ⟨Bx, 0, none⟩), .int .i64 0, undef, undef, undef, undef, undef, undef, undef, undef, undef, undef, undef, .agg (dbA gr gp cp gb cb), .bool true, .bool false, .agg (dbA gr gp cp gb cb), .func (.func 45) #[] #[.pointer (some ⟨w1.heap.size + 1, 0, none⟩)], .agg (pgA (npg (x : Int))), .int .i64 0, undef, undef, undef, undef, undef, undef, undef, undef, undef, undef, undef, undef, undef, undef, undef, undef, undef, undef, undef, undef, undef, undef, undef, undef, undef, undef, undef, undef, undef, undef, undef, undef, undef, undef, undef, undef, undef, undef, undef, undef, undef, undef, undef, undef, undef, undef, undef, undef, undef, undef, undef, undef, undef, undef, undef, undef, undef, undef, undef, undef, undef, undef, undef, undef, undef, undef, undef, undef, undef, undef, undef, undef, undef, undef, undef, undef, undef, undef, undef, undef], defers := [] })
    (fun x a' _ X Y row hs hg hr => by obtain ⟨Bx, h1, h2⟩ := hs; exact ⟨Bx, own_row' Bx 32 (fun (_ : Unit) => pgA (npg (x : Int))) () X Y row h1 hg (fun r e => (hr r e).2), h2⟩)
    ?assign ?body ?done ?stop
  case assign =>
    rintro l pre x W K ⟨⟨v, hv, hrow, -⟩, ⟨k0, k1, k2⟩, hB1, hZ⟩ hK
    unfold encP
    gi_wp2
    exact hK _ _ ((KeepsOthers.alloc _ _).from _) (KeepsL.of_grownBy (World.grownBy_alloc W _ none) (fun k hk => ⟨by have := hd0.lt k hk; omega, by simp⟩)) ⟨⟨v, hv.alloc _, hrow.alloc _, trivial⟩, ⟨old_alloc k0 _, old_alloc k1 _, old_alloc k2 _⟩, hB1.alloc hB1.size _, by simp; omega⟩ ⟨W.heap.size, heap_alloc_new W _, rfl⟩
  case body =>
    rintro l pre x a' W hl ⟨r, hr⟩ ⟨⟨v, hv, hrow, -⟩, ⟨k0, k1, k2⟩, hB1, hZ⟩ ⟨Bx, bX, rfl⟩ hlt
    have cL := hv.cell
    obtain ⟨rB, lB, -, -, -⟩ := blk bX
    have HX := Hd.mk bX
    have H0 := Hd.mk k0
    have H1 := Hd.mk k1
    have H2 := Hd.mk k2
    have HV := Hd.mk hv
    have HR := Hd.mk hr
    clear bX k0 k1 k2 hv hr m0 m1 m2 bL
    gi_wp2_with (gi_at_builtin; refine wpListIn_append_own _ rfl _ _ 107 rfl W0.heap.size 32 i0 (.agg (pgA zPg)) 34 400 Tryz.underlying107 HI.out.1 HI.out.2.1 HI.out.2.2.1 HI.out.2.2.2 (pgA_size _) (by decide) v _ _ rfl (hrow.alloc _) ⟨W.heap.size, 0, none⟩ 1 1 (pgA (npg (x : Int))).toList rfl (pgA_len _) (World.news_of_block (heap_alloc_new W _)) (pgA_oneL _) (by unfold maxLen; omega) (by omega) (by simp; omega) ?_; intro v' w9 hown' hgrow _; obtain ⟨g', cap', rfl⟩ := ownsRow_succ hown'; have HAP := Hd.mk (HV.out.appended (n₀ := w.heap.size) (by decide) (ownsRow_base hrow (by omega)) hB1.size (by omega) (ownsRow_base hown' (by omega)) hgrow); have HO := Hd.mk hown'; have HG := Hd.mk hgrow; clear hown' hgrow; have hc1 := HAP.out.1.cell; have hf1 := HAP.out.1.frozen)
    have no := fun k (hk : k < W0.heap.size) => ownBlock_base hrow hk
    refine ⟨HAP.out.2.2.2.1.from _, ?_, ⟨⟨_, HAP.out.2.1, ?_, trivial⟩, ⟨app_row H0.out HG.out (no _ (by omega)) (by omega), app_row H1.out HG.out (no _ (by omega)) (by omega), app_row H2.out HG.out (no _ (by omega)) (by omega)⟩, hB1.trans HAP.out.2.2.2.2, Nat.le_trans hZ HAP.out.2.2.2.2.size⟩⟩
    · refine KeepsL.of_app HG.out fun k hk => ⟨?_, no k (hd0.lt k hk), ?_⟩
      · have := hd0.lt k hk
        omega
      · simp at hk
        rcases hk with rfl | rfl | rfl | rfl <;> omega
    · rw [pgL_snoc, List.length_append]
      exact HO.out.kept (grownBy_setCell' w9 w1.heap.size _) (.inr (HAP.out.1.not_row (by decide) HO.out).symm)
  case done =>
    rintro D xs W hD rfl ⟨⟨v, hv, hrow, -⟩, ⟨k0, k1, k2⟩, hB1, hZ⟩ hK
    obtain ⟨g, cap, rfl⟩ := ownsRow_succ hrow
    have HC : Hd (CF gr gp cp gb cb w w1.heap.size W0.heap.size D g cap W) := ⟨⟨hv, hrow, k0, k1, k2, hB1, hK⟩⟩
    have c0 := (blk k0).2.2.1
    clear hv hrow k0 k1 k2 hB1 hK m0 m1 m2 bL hd0 hB0 HI
    gi_wp2_with fail
    refine wpIn_loop_rounds 1 ?_
    rw [roundsIn_succ]
    gi_wp2_with fail
    refine ⟨trivial, ?_⟩
    refine (callsIn_wide.2 (sort23 _)).mono ?_
    rintro e wa ⟨rfl, hb⟩
    replace HC := Hd.mk (HC.out.step hb)
    clear hb c0
    gi_wp2_with fail
    refine ⟨trivial, ?_⟩
    refine (callsIn_wide.2 (compact25 _)).mono ?_
    rintro e wb ⟨rfl, hb⟩
    replace HC := Hd.mk (HC.out.step hb)
    clear hb
    gi_wp2_with fail
    refine ⟨trivial, ?_⟩
    refine (callsIn_wide.2 (back24 _)).mono ?_
    rintro e wc ⟨rfl, rfl⟩
    gi_wp2_with fail
    have hD1 := (Array.getElem?_eq_some_iff.1 HC.out.d).1
    have hBs := HC.out.below.size
    refine wpIn_rangeFunc_ownH (F := Fence.wide) rfl (by omega) (gf := 49) (lb := #[.pointer (some ⟨wb.heap.size, 0, none⟩)]) rfl trivial (enters_of Tryz.func49 (by kernel_rfl) rfl)
      (back49 4 wb.heap.size _ (Boxed.new wb 59 (.slice none 0 0))) (fun _ _ => trivial) (fun _ _ _ _ _ _ _ _ => trivial) (Below.refl _ _) (fun _ => rfl)
      (fun _ W => CF gr gp cp gb cb w w1.heap.size W0.heap.size D g cap W) (fun _ _ _ => False)
      (CF.own (by simp; omega) (by simp; omega)) (fun _ _ _ _ _ hs _ _ => hs)
      (HC.out.step ((Below.refl _ _).alloc (Nat.le_refl _) _))
      (fun _ _ _ => True) (fun _ _ _ _ _ _ _ _ _ => trivial) ?assign2 ?body2 ?done2 ?stop2
    case assign2 =>
      intro l2 pre x W2 K hI hK2
      gi_wp2
      exact hK2 _ _ (KeepsFrom.refl _ _) trivial hI trivial
    case body2 =>
      intro l2 pre x a' W2 _ _ _ _ hlt
      omega
    case done2 =>
      rintro D2 xs W3 hD2 rfl hC3 hK3
      have HC3 := Hd.mk hC3
      have HK3 := Hd.mk hK3
      have cB := hC3.bl.cell
      have p0 : (ldv 32 ⟨g, 0, none⟩).run Tryz.prog W3 = .ok (.agg (pgA (npg 0))) W3 := ld_pg hC3.row (by omega) 0 (npg ((0 : Nat) : Int)) (fun j hj => by have := pgL_two 0 j (by omega) hj; simpa using this)
      have h30 := run_ld30 (W3.alloc (.cells (pgA (npg 0)) 32)) W3.heap.size 0 (by simp [go_sem])
      have hDD : D < D2 := by simp at hD2; omega
      have hDw : w.heap.size ≤ D := by omega
      clear hC3 hK3 HC hD hD2 HS HD
      obtain ⟨j0, hi, hz0, hz1, hz2⟩ := info_parts info30r
      have HI := Hd.mk (And.intro hi (And.intro hz0 (And.intro hz1 hz2)))
      clear hi hz0 hz1 hz2
      gi_wp2_with fail
      refine wpIn_loop_rounds 3 ?_
      rw [roundsIn_succ]
      gi_wp2_with (gi_at_builtin; refine wpListIn_append_own _ rfl _ _ 26 rfl W3.heap.size 30 j0 (.agg caA) 32 384 Tryz.underlying26 HI.out.1 HI.out.2.1 HI.out.2.2.1 HI.out.2.2.2 caA_size (by decide) (.slice none 0 0) 0 [] rfl (World.ownsRow_nil _ _ _ _) ⟨W3.heap.size + 1, 0, none⟩ 1 1 caA.toList rfl caA_len (World.news_of_block (heap_new1 W3 _ _)) caA_oneL (by decide) (by decide) (by simp; omega) ?_; intro v' w9 hown' hgrow _; obtain ⟨g1', cap1, rfl⟩ := ownsRow_succ hown'; have HO1 := Hd.mk hown'; have HB1 := Hd.mk (grown_below (((Below.refl W3.heap.size W3).alloc (Nat.le_refl _) _).alloc (by simp) _) hgrow (by simp; omega) (by simp [Value.ownBlock])); clear hown' hgrow p0 h30 cB)
      have p1 : (ldv 32 ⟨g, 34, none⟩).run Tryz.prog w9 = .ok (.agg (pgA (npg 1))) w9 := ld_pg (HC3.out.step HB1.out).row (by omega) 34 (npg ((1 : Nat) : Int)) (fun j hj => by have := pgL_two 1 j (by omega) hj; simpa using this)
      have h31 := run_ld30 (w9.alloc (.cells (pgA (npg 1)) 32)) w9.heap.size 1 (by simp [go_sem])
      rw [roundsIn_succ]
      gi_wp2_with (gi_at_builtin; refine wpListIn_append_own _ rfl _ _ 26 rfl W3.heap.size 30 j0 (.agg caA) 32 384 Tryz.underlying26 HI.out.1 HI.out.2.1 HI.out.2.2.1 HI.out.2.2.2 caA_size (by decide) (.slice (some ⟨g1', 0, none⟩) 1 cap1) 1 _ rfl ((HO1.out.alloc _).alloc _) ⟨w9.heap.size + 1, 0, none⟩ 1 1 caA.toList rfl caA_len (World.news_of_block (heap_new1 w9 _ _)) caA_oneL (by decide) (by decide) (by have := HB1.out.size; simp; omega) ?_; intro v' w10 hown' hgrow _; obtain ⟨g2', cap2, rfl⟩ := ownsRow_succ hown'; have HB2 := Hd.mk (grown_below ((HB1.out.alloc HB1.out.size _).alloc (by have := HB1.out.size; simp; omega) _) hgrow (by have := HB1.out.size; simp; omega) (fun k hk => (HO1.out.lt k hk).1)); clear hown' hgrow p1 h31)
      have HC4 := Hd.mk (HC3.out.step HB2.out)
      obtain ⟨-, -, e1, e2, -⟩ := blk HC4.out.k1
      obtain ⟨-, -, f1, f2, -⟩ := blk HC4.out.k2
      rw [roundsIn_succ]
      gi_wp2_with fail
      have n21 : D2 ≠ w.heap.size + 1 := ne_heap HK3.out HC3.out.k1 (fun e => by cases e)
      have n22 : D2 ≠ w.heap.size + 1 + 1 := ne_heap HK3.out HC3.out.k2 (fun e => by cases e)
      have n11 : D ≠ w.heap.size + 1 := ne_heap HC3.out.d HC3.out.k1 (fun e => by cases e)
      have n12 : D ≠ w.heap.size + 1 + 1 := ne_heap HC3.out.d HC3.out.k2 (fun e => by cases e)
      have q2 : ((w10.setCell ⟨w.heap.size + 1, 0, none⟩ (.slice (some ⟨g2', 0, none⟩) 2 cap2)).setCell ⟨w.heap.size + 1 + 1, 0, none⟩ (.int .i64 0)).heap[D2]? = some (.deferred (some [])) :=
        (Below.heap_setCell _ _ _ _ n22).trans ((Below.heap_setCell _ _ _ _ n21).trans ((HB2.out.block D2 (Array.getElem?_eq_some_iff.1 HK3.out).1).trans HK3.out))
      have q1 : (((w10.setCell ⟨w.heap.size + 1, 0, none⟩ (.slice (some ⟨g2', 0, none⟩) 2 cap2)).setCell ⟨w.heap.size + 1 + 1, 0, none⟩ (.int .i64 0)).putObj D2 (.deferred none)).heap[D]? = some (.deferred (some [])) :=
        (World.putObj_heap_other (by omega)).trans ((Below.heap_setCell _ _ _ _ n12).trans ((Below.heap_setCell _ _ _ _ n11).trans HC4.out.d))
      have r2 : ((((w10.setCell ⟨w.heap.size + 1, 0, none⟩ (.slice (some ⟨g2', 0, none⟩) 2 cap2)).setCell ⟨w.heap.size + 1 + 1, 0, none⟩ (.int .i64 0)).putObj D2 (.deferred none)).putObj D (.deferred none)).heap[w.heap.size + 1 + 1]? = some (.cells #[.int .i64 0] 85 (0, 0)) :=
        (World.putObj_heap_other (by omega)).trans ((World.putObj_heap_other (by omega)).trans (heap_setCell_same _ _ 0 #[.int .i64 0] 85 (.int .i64 0) ((Below.heap_setCell _ _ _ _ (by dsimp only; omega)).trans HC4.out.k2)))
      have r1 : ((((w10.setCell ⟨w.heap.size + 1, 0, none⟩ (.slice (some ⟨g2', 0, none⟩) 2 cap2)).setCell ⟨w.heap.size + 1 + 1, 0, none⟩ (.int .i64 0)).putObj D2 (.deferred none)).putObj D (.deferred none)).heap[w.heap.size + 1]? = some (.cells #[.slice (some ⟨g2', 0, none⟩) 2 cap2] 26 (0, 0)) :=
        (World.putObj_heap_other (by omega)).trans ((World.putObj_heap_other (by omega)).trans ((Below.heap_setCell _ _ _ _ (by dsimp only; omega)).trans (heap_setCell_same _ _ 0 #[.slice none 0 0] 26 (.slice (some ⟨g2', 0, none⟩) 2 cap2) HC4.out.k1)))
      have hBf := (((HC4.out.below.setCell (p := ⟨w.heap.size + 1, 0, none⟩) (by simp) (.slice (some ⟨g2', 0, none⟩) 2 cap2)).setCell (p := ⟨w.heap.size + 1 + 1, 0, none⟩) (by simp; omega) (.int .i64 0)).trans (belowK_b (w := w) (Nat.le_refl _) _ D2 _ (.deferred none) (by omega) q2 rfl rfl)).trans (belowK_b (w := w) (Nat.le_refl _) _ D _ (.deferred none) hDw q1 rfl rfl)
      have c1 := (blk r1).2.2.1 0
      have c2 := (blk r2).2.2.1 0
      simp only [List.size_toArray, List.length_cons, List.length_nil, Nat.reduceAdd, Nat.lt_add_one, getElem?_pos, List.getElem_toArray, List.getElem_cons_zero] at c1 c2
      refine ⟨by simp, .inl ⟨D2, _, rfl, run_takeDeferred q2, ⟨by simp, .inl ⟨D, _, rfl, run_takeDeferred q1, ?_⟩⟩⟩⟩
      exact ⟨_, results_cc rfl rfl (by simp [go_sem, c1]) rfl (by simp [go_sem, c2]), g2', cap2, rfl, hBf⟩
    case stop2 =>
      rintro D2 c pre W3 _ h _ _
      exact h.elim
  case stop =>
    rintro D c pre W _ _ h _
    exact h.elim
end Go.Proofs.YtcjmejokgoefkaaGreat
