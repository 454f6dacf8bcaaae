/- The walk of MeterNames. -/
import Derived.Test.YtgelccenbceeoaaShown02
namespace Go.Proofs.Ytgelccenbceeoaa
open Go.RowKit

theorem walkMeterNames (w : World) : Calls Try.prog 5 #[] w fun e w' => e = .returned (.bool true) ∧ Below w.heap.size w w' := by
  go_enter Try.func5, Try.ntmps5
  go_wp2_with fail
  refine (shown02 _).mono ?_
  rintro e w1 ⟨rfl, hK⟩
  go_wp2
  go_ret
  exact ⟨rfl, hK.below (Nat.le_refl _) (by simp)⟩

end Go.Proofs.Ytgelccenbceeoaa
