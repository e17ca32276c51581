import Derived.Test.YtcjmejokgoefkaaGreatW25
import Derived.Maps.AppendAt
namespace Go.Proofs.YtcjmejokgoefkaaGreat
open Go.RowKit Go.Shelf
set_option linter.unusedSimpArgs false
set_option linter.unusedVariables false
attribute [local go_sem] Oper.semAt_some
set_option maxRecDepth 100000 in
theorem len93 (w : World) : Calls Tryz.prog 93 #[.int .u64 0] w (Gives (.int .i64 0) w) := by
  go_enter Tryz.func93, Tryz.ntmps93
  go_wp2_with fail
  go_ret
  refine ⟨?_, Below.refl _ _⟩
  kernel_rfl
theorem len48 (w : World) : Calls Tryz.prog 48 #[.int .u64 0] w (Gives (.int .i64 0) w) := by
  go_enter Tryz.func48, Tryz.ntmps48
  go_wp2_with fail
  refine (len93 _).mono ?_
  rintro e w1 ⟨rfl, hb⟩
  go_wp2_with fail
  go_ret
  exact ⟨rfl, hb⟩
theorem ins83 (w : World) : Calls Tryz.prog 83 #[.slice none 0 0, .int .i64 0, .int .i64 0] w (Gives (.tuple #[]) w) := by
  go_enter Tryz.func83, Tryz.ntmps83
  go_wp2_with fail
  refine wp_loop_rounds 1 ?_
  rw [rounds_succ]
  go_wp2_with fail
  go_end0
  exact ⟨rfl, Below.refl _ _⟩
set_option maxRecDepth 100000 in
theorem pdq47 (n : Int) (w : World) : Calls Tryz.prog 47 #[.slice none 0 0, .int .i64 0, .int .i64 0, .int .i64 n] w (Gives (.tuple #[]) w) := by
  go_enter Tryz.func47, Tryz.ntmps47
  go_wp2_with fail
  refine wp_loop_rounds 1 ?_
  rw [rounds_succ]
  go_wp2_with fail
  refine (ins83 _).mono ?_
  rintro e w1 ⟨rfl, hb⟩
  go_wp2_with fail
  refine bodyPost_ret (results_none rfl _ _ _) rfl ?_
  exact ⟨rfl, hb⟩
theorem sort23 (w : World) : Calls Tryz.prog 23 #[.slice none 0 0] w (Gives (.tuple #[]) w) := by
  go_enter Tryz.func23, Tryz.ntmps23
  go_wp2_with fail
  refine (len48 _).mono ?_
  rintro e w1 ⟨rfl, hb⟩
  go_wp2_with fail
  refine (pdq47 _ _).mono ?_
  rintro e w2 ⟨rfl, hb2⟩
  have HB := Hd.mk (hb.trans (hb2.mono hb.size))
  clear hb hb2
  go_wp2_with fail
  go_end0
  exact ⟨rfl, HB.out⟩
set_option maxRecDepth 100000 in
theorem compact25 (w : World) : Calls Tryz.prog 25 #[.slice none 0 0] w (Gives (.slice none 0 0) w) := by
  go_enter Tryz.func25, Tryz.ntmps25
  go_wp2_with fail
  go_ret
  exact ⟨rfl, Below.refl _ _⟩
theorem back24 (w : World) : Calls Tryz.prog 24 #[.slice none 0 0] w (fun e w' => e = .returned (.func (.func 49) #[] #[.pointer (some ⟨w.heap.size, 0, none⟩)]) ∧ w' = w.alloc (.cells #[.slice none 0 0] 59)) := by
  go_enter Tryz.func24, Tryz.ntmps24
  go_wp2_with fail
  go_ret
  exact ⟨rfl, rfl⟩
set_option maxRecDepth 100000 in
theorem back49 (n : Nat) (gx : Nat) (w : World) (hx : Boxed w gx 59 (.slice none 0 0)) :
    SeqStopsK Fence.wide n Tryz.prog 49 #[.pointer (some ⟨gx, 0, none⟩)] (fun _ : Nat => #[.int .i64 0, .int .i64 0]) (fun _ _ => True) (fun xs => xs = []) (fun pre => False) 0 w := fun l J Jx W hW hJ hJx hY h0 => by
  have bx : Boxed W gx 59 (.slice none 0 0) := (hW.block gx hx.lt).trans hx
  have cx := bx.cell
  have H0 := Hd.mk h0
  clear h0 hY hJ hJx hW hx bx
  refine callsIn_of_wp Tryz.func49 rfl trivial ?_ rfl
  simp only [Tryz.ntmps49, List.size_toArray, List.length_cons, List.length_nil, Nat.reduceAdd, Nat.reduceSub, Array.replicate_succ, Array.replicate_zero, List.push_toArray, List.append_toArray, List.nil_append, List.cons_append]
  gi_wp2
  refine wpIn_loop_rounds 1 ?_
  rw [roundsIn_succ]
  gi_wp2
  go_end0
  exact ⟨⟨_, rfl⟩, .inl ⟨[], rfl, H0.out⟩⟩
end Go.Proofs.YtcjmejokgoefkaaGreat
