/- What is shared out is shared out whole: the plain law. -/
import Derived.Test.YtldckefnelgdgaaFixShare
namespace Go.Proofs.Ytldckefnelgdgaa
open Go.RowKit
set_option linter.unusedSimpArgs false
set_option linter.unusedVariables false

theorem floorX_eq (a : Int) (p d : Nat) (hd : 1 ≤ d) : floorX a p d * d ≤ a * p ∧ a * p < floorX a p d * d + d := by
  have h1 := Nat.div_add_mod (a.natAbs * p) d
  have h2 : a.natAbs * p % d < d := Nat.mod_lt _ (by omega)
  have h3 : (a.natAbs * p / d * d + a.natAbs * p % d : Nat) = a.natAbs * p := by rw [Nat.mul_comm]; exact h1
  unfold floorX
  generalize a.natAbs * p / d = q at *
  generalize a.natAbs * p % d = r at *
  by_cases h0 : 0 ≤ a
  · rw [if_pos h0]
    have e : a * (p : Int) = ((a.natAbs * p : Nat) : Int) := by rw [Int.natCast_mul, show ((a.natAbs : Nat) : Int) = a by omega]
    rw [e, ← h3]
    simp only [Int.natCast_add, Int.natCast_mul]
    generalize (q : Int) * (d : Int) = m at *
    omega
  · rw [if_neg h0]
    have e : a * (p : Int) = -((a.natAbs * p : Nat) : Int) := by rw [Int.natCast_mul, show ((a.natAbs : Nat) : Int) = -a by omega, Int.neg_mul, Int.neg_neg]
    rw [e, ← h3]
    by_cases hr : 0 < r
    · rw [if_pos hr]
      simp only [Int.natCast_add, Int.natCast_mul, Int.neg_mul, Int.add_mul, Int.natCast_one, Int.one_mul]
      generalize (q : Int) * (d : Int) = m at *
      omega
    · rw [if_neg hr]
      simp only [Int.natCast_add, Int.natCast_mul, Int.neg_mul, Int.add_mul, Int.natCast_zero, Int.zero_mul]
      generalize (q : Int) * (d : Int) = m at *
      omega

theorem floorX_zero (a : Int) (d : Nat) (hd : 1 ≤ d) : floorX a 0 d = 0 := by
  unfold floorX
  simp [Nat.zero_div]
theorem floorX_all (a : Int) (d : Nat) (hd : 1 ≤ d) : floorX a d d = a := by
  unfold floorX
  rw [Nat.mul_div_cancel _ (show 0 < d by omega), Nat.mul_mod_left]
  by_cases h0 : 0 ≤ a
  · rw [if_pos h0]; omega
  · rw [if_neg h0, if_neg (by omega)]; omega

theorem floorX_mono {a : Int} {p p' d : Nat} (h0 : 0 ≤ a) (h : p ≤ p') : floorX a p d ≤ floorX a p' d := by
  unfold floorX
  rw [if_pos h0, if_pos h0]
  have h1 : a.natAbs * p / d ≤ a.natAbs * p' / d := Nat.div_le_div_right (Nat.mul_le_mul_left _ h)
  exact Int.ofNat_le.2 h1
/-- The part of one of them is near its even part. -/
theorem floorX_near {a : Int} {p q d : Nat} (hd : 1 ≤ d) : (floorX a (p + q) d - floorX a p d - 1) * d < a * q ∧ a * q < (floorX a (p + q) d - floorX a p d + 1) * d := by
  obtain ⟨h1, h2⟩ := floorX_eq a (p + q) d hd
  obtain ⟨h3, h4⟩ := floorX_eq a p d hd
  rw [Int.natCast_add, Int.mul_add] at h1 h2
  rw [Int.sub_mul, Int.sub_mul, Int.add_mul, Int.sub_mul, Int.one_mul]
  generalize floorX a (p + q) d * (d : Int) = x at *
  generalize floorX a p d * (d : Int) = y at *
  generalize a * (p : Int) = u at *
  generalize a * (q : Int) = v at *
  omega
theorem floorX_anti {a : Int} {p p' d : Nat} (hd : 1 ≤ d) (h0 : a ≤ 0) (h : p ≤ p') : floorX a p' d ≤ floorX a p d := by
  obtain ⟨h1, h2⟩ := floorX_eq a p' d hd
  obtain ⟨h3, h4⟩ := floorX_eq a p d hd
  have h5 : a * (p' : Int) ≤ a * (p : Int) := Int.mul_le_mul_of_nonpos_left h0 (Int.ofNat_le.2 h)
  apply Classical.byContradiction
  intro hc
  have h6 : (floorX a p d + 1) * (d : Int) ≤ floorX a p' d * (d : Int) := Int.mul_le_mul_of_nonneg_right (by omega) (by omega)
  rw [Int.add_mul, Int.one_mul] at h6
  omega

end Go.Proofs.Ytldckefnelgdgaa
