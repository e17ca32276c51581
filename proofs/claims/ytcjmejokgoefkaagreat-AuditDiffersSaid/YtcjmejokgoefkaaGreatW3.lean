import Derived.Test.YtcjmejokgoefkaaGreatW2
import Derived.Deep.DeepCutAuto
import Derived.Deep.RegionWith
namespace Go.Proofs.YtcjmejokgoefkaaGreat
open Go.RowKit
set_option linter.unusedSimpArgs false
set_option linter.unusedVariables false
def DevB (B : Nat) (w : World) (g : Nat) : Prop := B ≤ g ∧ ∃ cur : Array Value, w.heap[g]? = some (.cells cur 9 (0, 0)) ∧ cur[0]? = some (.string blankS) ∧ cur[1]? = some (.string blankS)
def BndB (B : Nat) (w : World) (g : Nat) : Prop := B ≤ g ∧ ∃ cur : Array Value, w.heap[g]? = some (.cells cur 3 (0, 0)) ∧ cur[0]? = some (.int .i64 0)
theorem own_row {w : World} {base g n cap : Nat} {t : TypeId} {xs : List Value} (h : w.ownsRow base t 1 (.slice (some ⟨g, 0, none⟩) n cap) n xs) (hn : 0 < n) :
    base ≤ g ∧ g < w.heap.size ∧ ∃ cur : Array Value, w.heap[g]? = some (.cells cur t (0, 0)) ∧ ∀ (k : Nat) (x : Value), xs[k]? = some x → cur[k]? = some x := by
  refine ⟨(h.lt g rfl).1, (h.lt g rfl).2, ?_⟩
  rcases h.2 with ⟨_, h0⟩ | ⟨g', cap', cur, hv, _, hb, _, _, _, hc⟩
  · omega
  · simp only [Value.slice.injEq, Option.some.injEq, Addr.mk.injEq] at hv
    obtain ⟨⟨rfl, -, -⟩, -, -⟩ := hv
    refine ⟨cur, hb, fun k x hk => ?_⟩
    rw [← hc, List.getElem?_take] at hk
    split at hk
    · rw [← Array.getElem?_toList]; exact hk
    · exact absurd hk (by simp)
set_option maxRecDepth 100000 in
theorem new16 (w : World) : Calls Tryz.prog 16 #[.int .i64 2] w (fun e w' => ∃ gp cp, e = .returned (.tuple #[.agg #[.slice (some ⟨gp, 0, none⟩) 2 cp, .int .i64 0, .slice none 0 0, .bool false, .slice none 0 0], .int .i64 0]) ∧ Below w.heap.size w w' ∧ DevB w.heap.size w' gp) := by
  go_enter Tryz.func16, Tryz.ntmps16
  go_wp2_with fail
  refine (blanks32 _).mono ?_
  rintro e w1 ⟨gp, cp, rfl, hb, hown⟩
  have S := ((Pre.nil w).alloc #[.slice none 0 0, .int .i64 0, .slice none 0 0, .bool false, .slice none 0 0] 62 w.heap.size rfl).step hb
  obtain ⟨b1, b2, -, -⟩ := S.at w.heap.size #[.slice none 0 0, .int .i64 0, .slice none 0 0, .bool false, .slice none 0 0] 62 (by simp)
  have HS := Hd.mk S
  clear S hb
  go_wp2_with fail
  refine bodyPost_ret (v := .tuple #[.agg #[.slice (some ⟨gp, 0, none⟩) 2 cp, .int .i64 0, .slice none 0 0, .bool false, .slice none 0 0], .int .i64 0]) (results_ct rfl rfl (by simp (maxDischargeDepth := 6) [go_sem, b1, b2]) rfl) rfl ⟨gp, cp, rfl, below_setRow HS.out.below (Nat.le_refl _) _, ?_⟩
  obtain ⟨o1, o2, cur, o3, o4⟩ := own_row hown (by decide)
  have hne : gp ≠ w.heap.size := by simp at o1; omega
  exact ⟨by simp at o1; omega, cur, (setRow_other _ _ _ _ hne).trans o3, o4 0 _ rfl, o4 1 _ rfl⟩
theorem info3r : (Tryz.prog.info? 3).map (fun i => (i.zero, i.size, i.bytes)) = some (some (.int .i64 0), 1, 8) := by kernel_rfl
set_option maxRecDepth 100000 in
theorem new17 (gb cb : Nat) (w : World) (hb : w.heap[gb]? = some (.cells #[.int .i64 0] 3 (0, 0))) : Calls Tryz.prog 17 #[.int .i64 2, .slice (some ⟨gb, 0, none⟩) 1 cb] w (fun e w' => ∃ gb cb, e = .returned (.tuple #[.agg #[.slice (some ⟨gb, 0, none⟩) 1 cb, .int .i64 2, .slice none 0 0, .int .i64 1, .int .i64 1], .int .i64 0]) ∧ Below w.heap.size w w' ∧ BndB w.heap.size w' gb) := by
  obtain ⟨i0, hi, hz0, hz1, hz2⟩ := info_parts info3r
  have hgb : gb < w.heap.size := (Array.getElem?_eq_some_iff.1 hb).1
  go_enter Tryz.func17, Tryz.ntmps17
  go_wp2_with fail
  refine (bounds33 gb cb _ (by rw [Below.heap_alloc w _ gb hgb]; exact hb)).mono ?_
  rintro e w1 ⟨rfl, hb1⟩
  have S := ((Pre.nil w).alloc #[.slice none 0 0, .int .i64 0, .slice none 0 0, .int .i64 0, .int .i64 0] 65 w.heap.size rfl).step hb1
  obtain ⟨b1, b2, -, -⟩ := S.at w.heap.size #[.slice none 0 0, .int .i64 0, .slice none 0 0, .int .i64 0, .int .i64 0] 65 (by simp)
  have hg1 : w1.heap[gb]? = some (.cells #[.int .i64 0] 3 (0, 0)) := (S.below.block gb hgb).trans hb
  have hs1 := S.below.size
  have hlt1 := S.lt (x := (w.heap.size, #[.slice none 0 0, .int .i64 0, .slice none 0 0, .int .i64 0, .int .i64 0], 65)) (by simp)
  have HS := Hd.mk S
  clear S hb1
  go_wp2_with (at_builtin; go_must (refine wpList_append_lies _ rfl (.const (.slice none 0 0)) (.tmp 11) 59 rfl w1.heap.size 3 i0 (.int .i64 0) 1 8 Tryz.underlying59 hi hz0 hz1 hz2 rfl (by decide) (.slice none 0 0) 0 [] rfl (World.ownsRow_nil _ _ _ _) ⟨gb, 0, none⟩ 1 cb [.int .i64 0] (by rfl) (by rfl) (World.news_of_block hg1) (by simp [Value.oneCell']) (by decide) (by decide) (by decide) (Nat.le_refl _) _ rfl ?_); intro g cap w2 hown hgrow hat hlt)
  have S2 := HS.out.step (grown_below (Below.refl _ _) hgrow (Nat.le_refl _) (by simp [Value.ownBlock]))
  obtain ⟨d1, d2, -, -⟩ := S2.at w.heap.size #[.slice none 0 0, .int .i64 0, .slice none 0 0, .int .i64 0, .int .i64 0] 65 (by simp)
  have HS2 := Hd.mk S2
  have HO := Hd.mk hown
  clear S2 HS b1 b2 hg1 hgrow hat hlt hown
  go_simp
  go_wp2_with fail
  refine bodyPost_ret (v := .tuple #[.agg #[.slice (some ⟨g, 0, none⟩) 1 cap, .int .i64 2, .slice none 0 0, .int .i64 1, .int .i64 1], .int .i64 0]) (results_ct rfl rfl (by simp (maxDischargeDepth := 6) [go_sem, d1, d2]) rfl) rfl ⟨g, cap, rfl, below_setRow HS2.out.below (Nat.le_refl _) _, ?_⟩
  obtain ⟨o1, o2, cur, o3, o4⟩ := own_row HO.out (by decide)
  have hne : g ≠ w.heap.size := by omega
  exact ⟨by omega, cur, (setRow_other _ _ _ _ hne).trans o3, o4 0 _ rfl⟩
set_option maxRecDepth 100000 in
theorem new15 (w : World) : Calls Tryz.prog 15 #[.int .i64 2, .int .i64 1] w (fun e w' => ∃ gr, e = .returned (.tuple #[.agg (kerA gr), .int .i64 0]) ∧ Below w.heap.size w w' ∧ w.heap.size ≤ gr ∧ w'.heap[gr]? = some (.cells rw6 218 (0, 0))) := by
  go_enter Tryz.func15, Tryz.ntmps15
  go_wp2_with fail
  refine (new29 _).mono ?_
  rintro e w1 ⟨rfl, hb⟩
  go_wp2_with fail
  refine (new30 _).mono ?_
  rintro e w2 ⟨gr, rfl, hb2, hgr, hrow⟩
  have S := (((((Pre.nil w).alloc zKer 57 w.heap.size rfl).step hb).alloc #[.int .i64 1, .slice none 0 0, .int .i64 0] 47 w1.heap.size rfl).step hb2).alloc #[.slice (some ⟨gr, 0, none⟩) 2 2] 54 w2.heap.size rfl
  have S0 := ((Pre.nil w).alloc zKer 57 w.heap.size rfl).step hb
  have hlt1 := S0.lt (x := (w.heap.size, zKer, 57)) (by simp)
  have hlt2 := hb2.size
  have hlt3 := (Array.getElem?_eq_some_iff.1 hrow).1
  simp at hgr hlt2
  clear S0 hb hb2
  obtain ⟨a1, a2, -, -⟩ := S.at w.heap.size zKer 57 (by simp)
  obtain ⟨b1, b2, -, -⟩ := S.at w1.heap.size #[.int .i64 1, .slice none 0 0, .int .i64 0] 47 (by simp)
  obtain ⟨d1, d2, -, -⟩ := S.at w2.heap.size #[.slice (some ⟨gr, 0, none⟩) 2 2] 54 (by simp)
  have HS := Hd.mk S
  clear S
  go_upto_region 5 with fail
  go_region_with (go_at_call 31; refine (new31 _).mono ?_; rintro e w3 ⟨rfl, hb3⟩; have S3 := (HS.out.step (Below.refl _ _).drew).step hb3; obtain ⟨e1, e2, -, -⟩ := S3.at w.heap.size zKer 57 (by simp); obtain ⟨f1, f2, -, -⟩ := S3.at w1.heap.size #[.int .i64 1, .slice none 0 0, .int .i64 0] 47 (by simp); obtain ⟨h1, h2, -, -⟩ := S3.at w2.heap.size #[.slice (some ⟨gr, 0, none⟩) 2 2] 54 (by simp); have HS3 := Hd.mk S3; clear S3)
  all_goals
    go_wp2_with fail
    refine bodyPost_ret (v := .tuple #[.agg (kerA gr), .int .i64 0]) (results_ct rfl rfl (by simp (maxDischargeDepth := 6) [go_sem, e1, e2]) rfl) rfl ⟨gr, rfl, below_setRow HS3.out.below (Nat.le_refl _) _, by omega, ?_⟩
    refine (setRow_other _ _ _ _ (by omega)).trans ((hb3.block gr (by simp; omega)).trans ?_)
    show (w2.alloc _).heap[gr]? = _
    rw [Below.heap_alloc w2 _ gr hlt3]
    exact hrow
end Go.Proofs.YtcjmejokgoefkaaGreat
