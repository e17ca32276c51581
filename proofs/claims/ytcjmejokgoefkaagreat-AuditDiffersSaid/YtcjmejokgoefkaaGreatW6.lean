import Derived.Test.YtcjmejokgoefkaaGreatW5
namespace Go.Proofs.YtcjmejokgoefkaaGreat
open Go.RowKit
set_option linter.unusedSimpArgs false
set_option linter.unusedVariables false
theorem idx108 (fv : Value) (w : World) : Calls Tryz.prog 108 #[.slice none 0 0, fv] w (Gives (.int .i64 (-1)) w) := by
  go_enter Tryz.func108, Tryz.ntmps108
  go_wp2_with fail
  refine wp_loop_rounds 1 ?_
  rw [rounds_succ]
  go_wp2_with fail
  go_ret
  exact ⟨rfl, Below.refl _ _⟩
theorem has60 (fv : Value) (w : World) : Calls Tryz.prog 60 #[.slice none 0 0, fv] w (Gives (.bool false) w) := by
  go_enter Tryz.func60, Tryz.ntmps60
  go_wp2_with fail
  refine (idx108 fv _).mono ?_
  rintro e w1 ⟨rfl, hb⟩
  go_wp2_with fail
  go_ret
  exact ⟨rfl, hb⟩
theorem idx109 (fv : Value) (w : World) : Calls Tryz.prog 109 #[.slice none 0 0, fv] w (Gives (.int .i64 (-1)) w) := by
  go_enter Tryz.func109, Tryz.ntmps109
  go_wp2_with fail
  refine wp_loop_rounds 1 ?_
  rw [rounds_succ]
  go_wp2_with fail
  go_ret
  exact ⟨rfl, Below.refl _ _⟩
theorem has62 (fv : Value) (w : World) : Calls Tryz.prog 62 #[.slice none 0 0, fv] w (Gives (.bool false) w) := by
  go_enter Tryz.func62, Tryz.ntmps62
  go_wp2_with fail
  refine (idx109 fv _).mono ?_
  rintro e w1 ⟨rfl, hb⟩
  go_wp2_with fail
  go_ret
  exact ⟨rfl, hb⟩
theorem idx110 (fv : Value) (w : World) : Calls Tryz.prog 110 #[.slice none 0 0, fv] w (Gives (.int .i64 (-1)) w) := by
  go_enter Tryz.func110, Tryz.ntmps110
  go_wp2_with fail
  refine wp_loop_rounds 1 ?_
  rw [rounds_succ]
  go_wp2_with fail
  go_ret
  exact ⟨rfl, Below.refl _ _⟩
theorem has64 (fv : Value) (w : World) : Calls Tryz.prog 64 #[.slice none 0 0, fv] w (Gives (.bool false) w) := by
  go_enter Tryz.func64, Tryz.ntmps64
  go_wp2_with fail
  refine (idx110 fv _).mono ?_
  rintro e w1 ⟨rfl, hb⟩
  go_wp2_with fail
  go_ret
  exact ⟨rfl, hb⟩
theorem idx113 (fv : Value) (w : World) : Calls Tryz.prog 113 #[.slice none 0 0, fv] w (Gives (.int .i64 (-1)) w) := by
  go_enter Tryz.func113, Tryz.ntmps113
  go_wp2_with fail
  refine wp_loop_rounds 1 ?_
  rw [rounds_succ]
  go_wp2_with fail
  go_ret
  exact ⟨rfl, Below.refl _ _⟩
theorem has69 (fv : Value) (w : World) : Calls Tryz.prog 69 #[.slice none 0 0, fv] w (Gives (.bool false) w) := by
  go_enter Tryz.func69, Tryz.ntmps69
  go_wp2_with fail
  refine (idx113 fv _).mono ?_
  rintro e w1 ⟨rfl, hb⟩
  go_wp2_with fail
  go_ret
  exact ⟨rfl, hb⟩
end Go.Proofs.YtcjmejokgoefkaaGreat
