/- The document's examples of layer 2, walked. -/
import Derived.Test.YtgelccenbceeoaaRef02
namespace Go.Proofs.Ytgelccenbceeoaa
open Go.RowKit
set_option linter.unusedSimpArgs false
set_option linter.unusedVariables false

set_option maxHeartbeats 1600000 in
theorem shown02 (w : World) : Calls Try.prog 15 #[] w fun e w' => e = .returned (.bool true) ∧ Keep [] w w' := by
  go_enter Try.func15, Try.ntmps15
  go_wp2_with fail
  refine (new_good 5 3 _ (by omega) (by omega)).mono ?_
  rintro e w0 ⟨rfl, hM0, hK0, hs0⟩
  rw [show MS.new 5 3 = ⟨0, 0, 5, 0, 0, 3, 0⟩ from rfl] at hM0
  go_wp2_with fail
  refine (step_any w.heap.size ⟨0, 0, 5, 0, 0, 3, 0⟩ 3 _ hM0 (by simp only [MS.ok]; omega)).mono ?_
  rintro e w1 ⟨rfl, hM1, hK1⟩
  rw [show MS.step ⟨0, 0, 5, 0, 0, 3, 0⟩ 3 = (true, ⟨3, 3, 5, 0, 0, 3, 0⟩) from rfl] at hM1 ⊢
  go_wp2_with fail
  refine (step_any w.heap.size ⟨3, 3, 5, 0, 0, 3, 0⟩ 2 _ hM1 (by simp only [MS.ok]; omega)).mono ?_
  rintro e w2 ⟨rfl, hM2, hK2⟩
  rw [show MS.step ⟨3, 3, 5, 0, 0, 3, 0⟩ 2 = (true, ⟨5, 5, 5, 0, 0, 3, 0⟩) from rfl] at hM2 ⊢
  go_wp2_with fail
  refine (hold_any w.heap.size ⟨5, 5, 5, 0, 0, 3, 0⟩ 2 _ hM2 (by simp only [MS.ok]; omega)).mono ?_
  rintro e w3 ⟨rfl, hM3, hK3⟩
  rw [show MS.hold ⟨5, 5, 5, 0, 0, 3, 0⟩ 2 = (true, ⟨5, 5, 5, 2, 2, 3, 0⟩) from rfl] at hM3 ⊢
  go_wp2_with fail
  refine (drop_any w.heap.size ⟨5, 5, 5, 2, 2, 3, 0⟩ 1 _ hM3 (by simp only [MS.ok]; omega)).mono ?_
  rintro e w4 ⟨rfl, hM4, hK4⟩
  rw [show MS.drop ⟨5, 5, 5, 2, 2, 3, 0⟩ 1 = (true, ⟨5, 5, 5, 1, 2, 3, 0⟩) from rfl] at hM4 ⊢
  go_wp2_with fail
  refine (hold_any w.heap.size ⟨5, 5, 5, 1, 2, 3, 0⟩ 2 _ hM4 (by simp only [MS.ok]; omega)).mono ?_
  rintro e w5 ⟨rfl, hM5, hK5⟩
  rw [show MS.hold ⟨5, 5, 5, 1, 2, 3, 0⟩ 2 = (true, ⟨5, 5, 5, 3, 3, 3, 0⟩) from rfl] at hM5 ⊢
  go_wp2_with fail
  refine (step_any w.heap.size ⟨5, 5, 5, 3, 3, 3, 0⟩ 1 _ hM5 (by simp only [MS.ok]; omega)).mono ?_
  rintro e w6 ⟨rfl, hM6, hK6⟩
  rw [show MS.step ⟨5, 5, 5, 3, 3, 3, 0⟩ 1 = (false, ⟨5, 5, 5, 3, 3, 3, 20⟩) from rfl] at hM6 ⊢
  go_wp2_with fail
  refine (steps_any w.heap.size ⟨5, 5, 5, 3, 3, 3, 20⟩ _ hM6).mono ?_
  rintro e w' ⟨rfl, rfl⟩
  go_wp2_with fail
  refine (held_any w.heap.size ⟨5, 5, 5, 3, 3, 3, 20⟩ _ hM6).mono ?_
  rintro e w' ⟨rfl, rfl⟩
  go_wp2_with fail
  refine (peak_any w.heap.size ⟨5, 5, 5, 3, 3, 3, 20⟩ _ hM6).mono ?_
  rintro e w' ⟨rfl, rfl⟩
  go_wp2_with fail
  refine (refused_any w.heap.size ⟨5, 5, 5, 3, 3, 3, 20⟩ _ hM6).mono ?_
  rintro e w' ⟨rfl, rfl⟩
  go_wp2_with fail
  refine (hold_any w.heap.size ⟨5, 5, 5, 3, 3, 3, 20⟩ 0 _ hM6 (by simp only [MS.ok]; omega)).mono ?_
  rintro e w7 ⟨rfl, hM7, hK7⟩
  rw [show MS.hold ⟨5, 5, 5, 3, 3, 3, 20⟩ 0 = (false, ⟨5, 5, 5, 3, 3, 3, 20⟩) from rfl] at hM7 ⊢
  go_wp2
  go_ret
  exact ⟨rfl, (((((((hK0.then hK1 (by simp)).then hK2 (by simp)).then hK3 (by simp)).then hK4 (by simp)).then hK5 (by simp)).then hK6 (by simp)).then hK7 (by simp))⟩

end Go.Proofs.Ytgelccenbceeoaa
