/- FixNumbers' walk. -/
import Derived.Test.YtldckefnelgdgaaShown01
namespace Go.Proofs.Ytldckefnelgdgaa
open Go.RowKit
set_option linter.unusedSimpArgs false
set_option linter.unusedVariables false

theorem walkFixNumbers (w : World) : Calls Try.prog 6 #[] w fun e w' => e = .returned (.bool true) ∧ Below w.heap.size w w' := by
  go_enter Try.func6, Try.ntmps6
  go_wp2_with fail
  refine (shown01 _).mono ?_
  rintro e w1 ⟨rfl, K1⟩
  go_wp2
  go_ret
  exact ⟨rfl, K1.below (Nat.le_refl _) (by simp)⟩

end Go.Proofs.Ytldckefnelgdgaa
