import Derived.Test.YtcjmejokgoefkaaGreatW24
namespace Go.Proofs.YtcjmejokgoefkaaGreat
open Go.RowKit Go.Shelf
set_option linter.unusedSimpArgs false
set_option linter.unusedVariables false
attribute [local go_sem] Oper.semAt_some
theorem ownFrom_size {β : Type} (B N : Nat) : OwnFrom B (fun (_ : β) W => N ≤ W.heap.size) := fun _ _ _ _ hs hg _ => Nat.le_trans hs hg.size
set_option maxRecDepth 100000 in
set_option maxHeartbeats 4000000 in
theorem lost12 (gr gp cp gb cb : Nat) (w : World) (hd : DbC gr gp gb w) : Calls Tryz.prog 12 #[.agg (dbA gr gp cp gb cb)] w (Gives (.slice none 0 0) w) := by
  have HD := Hd.mk hd
  clear hd
  have HS := Hd.mk ((Pre.nil w).alloc (dbA gr gp cp gb cb) 84 w.heap.size rfl)
  refine (callsIn_wide (n := 5)).1 ?_
  refine callsIn_of_wp_marks Tryz.func12 rfl trivial ?_ rfl
  simp only [Tryz.ntmps12, List.size_toArray, List.length_cons, List.length_nil, Nat.reduceAdd, Nat.reduceSub, Array.replicate_succ, Array.replicate_zero, List.push_toArray, List.append_toArray, List.nil_append, List.cons_append]
  gi_wp2_with fail
  refine ⟨trivial, ?_⟩
  refine (callsIn_wide.2 (valid21 gr gp cp gb cb _ (HS.out.c HD.out))).mono ?_
  rintro e w1 ⟨rfl, hb⟩
  replace HS := Hd.mk (HS.out.step hb)
  clear hb
  obtain ⟨b01, b02, b03, b04, b05, b06, b07, b08⟩ := HS.out.facts w.heap.size (dbA gr gp cp gb cb) 84 (by simp)
  gi_wp2_with fail
  refine ⟨trivial, ?_⟩
  refine (callsIn_wide.2 (pages22 gr gp cp gb cb _)).mono ?_
  rintro e w2 ⟨rfl, rfl⟩
  gi_wp2_with fail
  have g1 : gr < w.heap.size := (Array.getElem?_eq_some_iff.1 HD.out.r).1
  have g2 : gp < w.heap.size := HD.out.p.1
  have g3 : gb < w.heap.size := HD.out.b.1
  obtain ⟨W0, hW0⟩ : ∃ W0, ((w1.alloc (.cells #[.slice none 0 0] 59)).alloc (.cells #[.int .i64 0] 3)).alloc (.cells (dbA gr gp cp gb cb) 84) = W0 := ⟨_, rfl⟩
  have bO := ((Boxed.new w1 59 (.slice none 0 0)).alloc (.cells #[.int .i64 0] 3)).alloc (.cells (dbA gr gp cp gb cb) 84)
  have bI := (Boxed.new (w1.alloc (.cells #[.slice none 0 0] 59)) 3 (.int .i64 0)).alloc (.cells (dbA gr gp cp gb cb) 84)
  have S0 := ((HS.out.alloc #[.slice none 0 0] 59 w1.heap.size rfl).alloc #[.int .i64 0] 3 (w1.heap.size + 1) (by simp)).alloc (dbA gr gp cp gb cb) 84 (w1.heap.size + 1 + 1) (by simp)
  have hsz : (((w1.alloc (.cells #[.slice none 0 0] 59)).alloc (.cells #[.int .i64 0] 3)).alloc (.cells (dbA gr gp cp gb cb) 84)).heap.size = w1.heap.size + 3 := by simp
  simp only [World.size_alloc] at bI
  rw [hW0] at bO bI S0 hsz ⊢
  clear hW0
  have hd0 : DbAt (w1.heap.size + 1 + 1) gr gp cp gb cb W0 := ⟨(S0.mem (w1.heap.size + 1 + 1, dbA gr gp cp gb cb, 84) (by simp)).2, S0.c HD.out⟩
  have hB0 := S0.below
  clear S0 b01 b02 b03 b04 b06 b07 b08
  refine wpIn_rangeFunc_ownG (F := Fence.wide) rfl (by omega) (gf := 45) (lb := #[.pointer (some ⟨w1.heap.size + 1 + 1, 0, none⟩)]) rfl trivial (enters_of Tryz.func45 (by kernel_rfl) rfl)
    (pages45 4 (by omega) (w1.heap.size + 1 + 1) gr gp cp gb cb W0 hd0) KeepsL.trans (keepsL_b hd0.lt) (Below.refl _ _) (fun _ => rfl)
    (fun pre W => (Boxed W w1.heap.size 59 (.slice none 0 0) ∧ Boxed W (w1.heap.size + 1) 3 (.int .i64 (pre.length : Int))) ∧ (Below w.heap.size w W ∧ W0.heap.size ≤ W.heap.size))
    (fun _ _ _ => False)
    (OwnFrom.and (OwnFrom.and (Own.from (boxed_own _ _ _) _) (Own.from (boxed_own _ _ (fun pre : List Nat => Value.int .i64 (pre.length : Int))) _)) (OwnFrom.and (ownFrom_below (Nat.le_refl _) (by omega)) (ownFrom_size _ _)))
    (fun _ _ _ _ _ hs _ _ => hs)
    ⟨⟨bO, bI⟩, hB0, Nat.le_refl _⟩
    (fun x => { tmps := #[.agg (dbA gr gp cp gb cb), .pointer (some ⟨w.heap.size, 0, none⟩), .slice none 0 0, .pointer (some ⟨w1.heap.size, 0, none⟩), .pointer (some ⟨w1.heap.size + 1, 0, none⟩), undef, .int .i64 0, .agg (dbA gr gp cp gb cb), .bool true, .bool false, .agg (dbA gr gp cp gb cb), .func (.func 45) #[] #[.pointer (some ⟨w1.heap.size + 1 + 1, 0, none⟩)], .agg (pgA (npg (x : Int))), .int .i64 0, undef, undef, undef, undef, undef, undef, undef, undef, undef], defers := [] }) ?assign ?body ?done ?stop
  case assign =>
    intro l x W K hK
    unfold encP
    gi_wp2
    exact hK
  case body =>
    rintro l pre x W ⟨⟨bO1, bI1⟩, hB1, hZ⟩ hlt
    have q1 : (pre.length : Int) < 2 := by omega
    have cI := bI1.cell
    have fI := bI1.frozen
    gi_wp2
    refine ⟨(KeepsOthers.setCell _ _ _).from _, KeepsL.of_grownBy (grownBy_setCell' W (w1.heap.size + 1) _) ?_, ⟨⟨bO1.other (by omega) _, ?_⟩, hB1.setCell (p := ⟨w1.heap.size + 1, 0, none⟩) (by dsimp only; omega) _, by simpa using hZ⟩⟩
    · intro k hk
      simp at hk
      rcases hk with rfl | rfl | rfl | rfl
      · exact ⟨by omega, by simp⟩
      all_goals exact ⟨by omega, by simp; omega⟩
    · have := bI1.set (.int .i64 ((pre.length : Int) + 1))
      simpa using this
  case done =>
    rintro D ys W hD rfl ⟨⟨bO1, bI1⟩, hB1, hZ⟩ hK
    have cO := bO1.cell
    gi_wp2
    refine ⟨by simp, .inl ⟨_, _, rfl, run_takeDeferred hK, ?_⟩⟩
    exact ⟨_, results_tmp rfl _ _ _, rfl, hB1.trans (belowK_b (w := w) (Nat.le_refl _) W D _ _ (by omega) hK rfl rfl)⟩
  case stop =>
    rintro D c pre W _ _ h _
    exact h.elim
end Go.Proofs.YtcjmejokgoefkaaGreat
