/- Scale is to the nearest, and odd: the plain law. -/
import Derived.Test.YtldckefnelgdgaaFixTold
namespace Go.Proofs.Ytldckefnelgdgaa
open Go.RowKit
set_option linter.unusedSimpArgs false
set_option linter.unusedVariables false

theorem scaleN_zero {d : Nat} (hd : 1 ≤ d) : scaleN 0 d = 0 := by
  unfold scaleN
  rw [Nat.zero_mod, Nat.zero_div, if_neg (by omega)]

theorem scaleN_same {x d : Nat} (hd : 1 ≤ d) : scaleN (x * d) d = x := by
  unfold scaleN
  rw [Nat.mul_mod_left, Nat.mul_div_cancel _ (show 0 < d by omega), if_neg (by omega)]

theorem scaleV_neg_a {a num den : Int} (hd : 1 ≤ den) : scaleV (-a) num den = -scaleV a num den := by
  unfold scaleV
  rw [Int.natAbs_neg]
  by_cases h0 : a = 0
  · subst h0
    simp [scaleN_zero (show 1 ≤ den.toNat by omega)]
  · by_cases h1 : a < 0
    · have h2 : ¬ -a < 0 := by omega
      rw [decide_eq_true h1, decide_eq_false h2]
      cases decide (num < 0) <;> simp
    · have h2 : -a < 0 := by omega
      rw [decide_eq_false h1, decide_eq_true h2]
      cases decide (num < 0) <;> simp
theorem scaleV_neg_num {a num den : Int} (hd : 1 ≤ den) : scaleV a (-num) den = -scaleV a num den := by
  unfold scaleV
  rw [Int.natAbs_neg]
  by_cases h0 : num = 0
  · subst h0
    simp [scaleN_zero (show 1 ≤ den.toNat by omega)]
  · by_cases h1 : num < 0
    · have h2 : ¬ -num < 0 := by omega
      rw [decide_eq_true h1, decide_eq_false h2]
      cases decide (a < 0) <;> simp
    · have h2 : -num < 0 := by omega
      rw [decide_eq_false h1, decide_eq_true h2]
      cases decide (a < 0) <;> simp

theorem lenB_neg (v : Int) : lenB (-v) = lenB v := by
  unfold lenB
  congr 1
  apply propext
  omega
theorem lim_neg (v : Int) : lim (-v) = (lim v).map (fun x => -x) := by
  unfold lim
  rw [lenB_neg]
  split <;> rfl

theorem scaleX_neg_a {a num den : Int} (h : scaleOk a num den) : scaleX (-a) num den = (scaleX a num den).map (fun x => -x) := by
  have h2 : scaleOk (-a) num den := ⟨by rw [lenB_neg]; exact h.1, h.2⟩
  unfold scaleX
  rw [if_pos h, if_pos h2, scaleV_neg_a h.2.1, lim_neg]
theorem scaleX_neg_num {a num den : Int} (h : scaleOk a num den) : scaleX a (-num) den = (scaleX a num den).map (fun x => -x) := by
  have h2 : scaleOk a (-num) den := ⟨h.1, h.2.1, h.2.2.1, by have := h.2.2.2; omega, by have := h.2.2.2; omega⟩
  unfold scaleX
  rw [if_pos h, if_pos h2, scaleV_neg_num h.2.1, lim_neg]
theorem scaleX_same {a num den : Int} (h : scaleOk a num den) : scaleX a den den = some a := by
  have h2 : scaleOk a den den := ⟨h.1, h.2.1, h.2.2.1, by have := h.2; omega, by have := h.2; omega⟩
  have hd : 1 ≤ den := h.2.1
  have hl := lenB_yes h.1
  unfold scaleX
  rw [if_pos h2]
  have e : scaleV a den den = a := by
    have e1 : den.natAbs = den.toNat := by omega
    have e2 : scaleN (a.natAbs * den.natAbs) den.toNat = a.natAbs := by rw [e1]; exact scaleN_same (by omega)
    have h3 : ¬ den < 0 := by omega
    unfold scaleV
    rw [e2, decide_eq_false h3]
    by_cases h4 : a < 0
    · rw [decide_eq_true h4, if_pos (by decide)]; omega
    · rw [decide_eq_false h4, if_neg (by decide)]; omega
  rw [e]
  exact lim_yes hl

/-- So near it is. -/
theorem scaleN_near {x d : Nat} (hd : 1 ≤ d) : 2 * (scaleN x d * d) ≤ 2 * x + d ∧ 2 * x ≤ 2 * (scaleN x d * d) + d := by
  have h := Nat.div_add_mod x d
  have hm : x % d < d := Nat.mod_lt _ (by omega)
  rw [Nat.mul_comm] at h
  unfold scaleN
  generalize x % d = r at *
  split
  · rw [Nat.add_mul, Nat.one_mul]
    generalize x / d * d = q at *
    omega
  · generalize x / d * d = q at *
    omega

theorem scaleV_near {a num den : Int} (hd : 1 ≤ den) : ∃ s : Int, ∃ p x : Nat, (s = 1 ∨ s = -1) ∧ scaleV a num den * den = s * p ∧ a * num = s * x ∧ x = a.natAbs * num.natAbs ∧ 2 * p ≤ 2 * x + den.toNat ∧ 2 * x ≤ 2 * p + den.toNat := by
  obtain ⟨h1, h2⟩ := scaleN_near (x := a.natAbs * num.natAbs) (d := den.toNat) (by omega)
  have hden : den = (den.toNat : Int) := by omega
  by_cases hs : (decide (a < 0) != decide (num < 0)) = true
  · refine ⟨-1, scaleN (a.natAbs * num.natAbs) den.toNat * den.toNat, a.natAbs * num.natAbs, .inr rfl, ?_, ?_, rfl, h1, h2⟩
    · unfold scaleV
      rw [if_pos hs]
      conv => lhs; arg 2; rw [hden]
      rw [Int.natCast_mul, Int.neg_mul, Int.neg_one_mul]
    · rw [signed_mul, if_pos hs, Int.neg_one_mul]
  · refine ⟨1, scaleN (a.natAbs * num.natAbs) den.toNat * den.toNat, a.natAbs * num.natAbs, .inl rfl, ?_, ?_, rfl, h1, h2⟩
    · unfold scaleV
      rw [if_neg hs]
      conv => lhs; arg 2; rw [hden]
      rw [Int.natCast_mul, Int.one_mul]
    · rw [signed_mul, if_neg hs, Int.one_mul]

end Go.Proofs.Ytldckefnelgdgaa
