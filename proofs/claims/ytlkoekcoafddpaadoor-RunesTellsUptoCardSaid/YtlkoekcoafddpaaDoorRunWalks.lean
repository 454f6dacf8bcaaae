/- Runes: RunesNumbers, RunesOne. -/
import Derived.Test.YtlkoekcoafddpaaDoorRunShown
namespace Go.Proofs.YtlkoekcoafddpaaDoor
open Go.RowKit Go.Lib
set_option linter.unusedSimpArgs false
set_option linter.unusedVariables false

set_option maxRecDepth 100000 in
theorem walkNumbers (w : World) (T : Tabs w) : Calls Tryd.prog 8 #[] w fun e w' => e = .returned (.bool true) ∧ Below w.heap.size w w' := by
  go_enter Tryd.func8, Tryd.ntmps8
  go_wp2_with fail
  refine (shown_any _ T).mono ?_
  rintro e w1 ⟨rfl, K1⟩
  go_wp2
  go_ret
  exact ⟨rfl, K1.below (Nat.le_refl _) (by simp)⟩
set_option maxRecDepth 100000 in
theorem walkOne (r : Int) (w : World) (T : Tabs w) : Calls Tryd.prog 4 #[.int .i64 r] w fun e w' => e = .returned (.bool true) ∧ Below w.heap.size w w' := by
  go_enter Tryd.func4, Tryd.ntmps4
  go_wp2_with fail
  refine (shown_any _ T).mono ?_
  rintro e w1 ⟨rfl, K1⟩
  go_wp2_with fail
  refine (width_any r _).mono ?_
  rintro e w2 ⟨rfl, rfl⟩
  go_wp2_with fail
  refine (rwidth_any r _).mono ?_
  rintro e w2 ⟨rfl, rfl⟩
  go_wp2_with fail
  refine (blank_any r _).mono ?_
  rintro e w2 ⟨rfl, rfl⟩
  go_wp2_with fail
  refine (rblank_any r _).mono ?_
  rintro e w2 ⟨rfl, rfl⟩
  go_wp2
  go_ret
  exact ⟨rfl, K1.below (Nat.le_refl _) (by simp)⟩

end Go.Proofs.YtlkoekcoafddpaaDoor
