/- The document's examples of layer 1. -/
import Derived.Test.YtldckefnelgdgaaFixShare
namespace Go.Proofs.Ytldckefnelgdgaa
open Go.RowKit
set_option linter.unusedSimpArgs false
set_option linter.unusedVariables false

theorem ex1 : ansC false (scaleX 5 1 2) = 3 ∧ badC false (scaleX 5 1 2) = false := by decide +kernel
theorem ex2 : ansC false (scaleX (-5) 1 2) = -3 ∧ badC false (scaleX (-5) 1 2) = false := by decide +kernel
theorem ex3 : ansC false (subX (-70368744177664) (-70368744177664)) = 0 ∧ badC false (subX (-70368744177664) (-70368744177664)) = false := by decide +kernel
theorem ex4 : ansC false (mulX 35184372088832 (-2)) = -70368744177664 ∧ badC false (mulX 35184372088832 (-2)) = false := by decide +kernel
theorem ex5 : ansC false (sumX 70368744177664 1) = 0 ∧ badC false (sumX 70368744177664 1) = true := by decide +kernel
theorem ex6 : ansC true (sumX 1 1) = 0 ∧ badC true (sumX 1 1) = true := by decide +kernel
theorem ex7 : shareX 10 2 3 3 = 4 ∧ shareX (-10) 0 1 3 = -4 := by decide +kernel

set_option maxHeartbeats 1600000 in
theorem shown01 (w : World) : Calls Try.prog 8 #[] w fun e w' => e = .returned (.bool true) ∧ Keep [] w w' := by
  go_enter Try.func8, Try.ntmps8
  go_wp2_with fail
  refine (calc_new _).mono ?_
  rintro e w1 ⟨rfl, G, K⟩
  have Hg : Hid (w.heap.size ≤ w.heap.size) := hid (Nat.le_refl _)
  obtain ⟨g, hg⟩ : ∃ g, g = w.heap.size := ⟨_, rfl⟩
  rw [← hg] at G ⊢
  have HG := hid hg
  clear hg
  go_wp2_with fail
  refine (calc_scale g false 5 1 2 _ G).mono ?_
  rintro e w2 ⟨rfl, G2, K2⟩
  rw [ex1.2] at G2
  rw [ex1.1]
  clear G
  go_wp2_with fail
  refine (calc_scale g false (-5) 1 2 _ G2).mono ?_
  rintro e w3 ⟨rfl, G3, K3⟩
  rw [ex2.2] at G3
  rw [ex2.1]
  clear G2
  go_wp2_with fail
  refine (calc_sub g false (-70368744177664) (-70368744177664) _ G3).mono ?_
  rintro e w4 ⟨rfl, G4, K4⟩
  rw [ex3.2] at G4
  rw [ex3.1]
  clear G3
  go_wp2_with fail
  refine (calc_times g false 35184372088832 (-2) _ G4 (by omega) (by omega) (by omega) (by omega)).mono ?_
  rintro e w5 ⟨rfl, G5, K5⟩
  rw [ex4.2] at G5
  rw [ex4.1]
  clear G4
  go_wp2_with fail
  refine (calc_wrong g false _ G5).mono ?_
  rintro e w' ⟨rfl, rfl⟩
  go_wp2_with fail
  refine (calc_add g false 70368744177664 1 _ G5).mono ?_
  rintro e w6 ⟨rfl, G6, K6⟩
  rw [ex5.2] at G6
  rw [ex5.1]
  clear G5
  go_wp2_with fail
  refine (calc_add g true 1 1 _ G6).mono ?_
  rintro e w7 ⟨rfl, G7, K7⟩
  rw [ex6.2] at G7
  rw [ex6.1]
  clear G6
  go_wp2_with fail
  refine (calc_wrong g true _ G7).mono ?_
  rintro e w' ⟨rfl, rfl⟩
  go_wp2_with fail
  refine (share_any 10 2 3 3 _).mono ?_
  rintro e w8 ⟨rfl, n1, rfl⟩
  rw [ex7.1]
  go_wp2_with fail
  refine (share_any (-10) 0 1 3 _).mono ?_
  rintro e w9 ⟨rfl, n2, rfl⟩
  rw [ex7.2]
  go_wp2
  go_ret
  have hS : ∀ k, k ∈ [g] → k ∈ ([] : List Nat) ∨ w.heap.size ≤ k := fun k hk => by simp at hk; have := HG.out; omega
  exact ⟨rfl, (((((((K.then K2 hS).then K3 hS).then K4 hS).then K5 hS).then K6 hS).then K7 hS).drewN _)⟩

end Go.Proofs.Ytldckefnelgdgaa
