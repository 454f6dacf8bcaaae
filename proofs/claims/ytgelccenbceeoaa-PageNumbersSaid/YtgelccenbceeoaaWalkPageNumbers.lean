/- PageNumbers' walk. -/
import Derived.Test.YtgelccenbceeoaaShown18
namespace Go.Proofs.Ytgelccenbceeoaa
open Go.RowKit
set_option linter.unusedSimpArgs false
set_option linter.unusedVariables false

theorem walkPageNumbers (w : World) : Calls Try.prog 12 #[] w fun e w' => e = .returned (.bool true) ∧ Below w.heap.size w w' := by
  go_enter Try.func12, Try.ntmps12
  go_wp2_with fail
  refine (shown18 _).mono ?_
  rintro e w1 ⟨rfl, K1⟩
  go_wp2
  go_ret
  exact ⟨rfl, K1.below (Nat.le_refl _) (by simp)⟩

end Go.Proofs.Ytgelccenbceeoaa
