/- Division of two words by one, in half words: the plain law. -/
import Derived.WalkKit
namespace Go.Proofs.Ytldckefnelgdgaa
set_option linter.unusedVariables false

theorem kn_le {q v1 v0 r n n1 : Nat} (h : q * v1 + r = n) (h2 : q * v0 ≤ 4294967296 * r + n1) : q * (v1 * 4294967296 + v0) ≤ n * 4294967296 + n1 := by
  have e : q * (v1 * 4294967296 + v0) = (q * v1) * 4294967296 + q * v0 := by rw [Nat.mul_add, Nat.mul_assoc]
  rw [e, ← h]
  generalize q * v1 = a at *
  generalize q * v0 = b at *
  omega
theorem kn_gt {q v1 v0 r n n1 : Nat} (h : q * v1 + r = n) (h2 : 4294967296 * r + n1 < q * v0) : n * 4294967296 + n1 < q * (v1 * 4294967296 + v0) := by
  have e : q * (v1 * 4294967296 + v0) = (q * v1) * 4294967296 + q * v0 := by rw [Nat.mul_add, Nat.mul_assoc]
  rw [e, ← h]
  generalize q * v1 = a at *
  generalize q * v0 = b at *
  omega
theorem kn_top {v1 v0 n n1 : Nat} (hn : n < v1 * 4294967296 + v0) (h1 : n1 < 4294967296) : (n * 4294967296 + n1) / (v1 * 4294967296 + v0) < 4294967296 := by
  rw [Nat.div_lt_iff_lt_mul (by omega)]
  omega
theorem kn_first {v1 v0 n n1 : Nat} (hv : 2147483648 ≤ v1) (hv0 : v0 < 4294967296) (hn : n < v1 * 4294967296 + v0) (h1 : n1 < 4294967296) :
    (n * 4294967296 + n1) / (v1 * 4294967296 + v0) ≤ n / v1 ∧ n / v1 ≤ 4294967297 ∧ (n / v1) * v1 + n % v1 = n ∧ n % v1 < v1 := by
  refine ⟨?_, ?_, ?_, Nat.mod_lt _ (by omega)⟩
  · rw [Nat.le_div_iff_mul_le (by omega)]
    have h := Nat.div_mul_le_self (n * 4294967296 + n1) (v1 * 4294967296 + v0)
    generalize (n * 4294967296 + n1) / (v1 * 4294967296 + v0) = D at *
    have e : D * (v1 * 4294967296 + v0) = (D * v1) * 4294967296 + D * v0 := by rw [Nat.mul_add, Nat.mul_assoc]
    rw [e] at h
    generalize D * v1 = a at *
    generalize D * v0 = b at *
    omega
  · have h : n / v1 < 4294967298 := by
      rw [Nat.div_lt_iff_lt_mul (by omega)]
      omega
    omega
  · have := Nat.div_add_mod n v1
    rw [Nat.mul_comm]
    exact this
/-- The guess is too great. -/
theorem kn_over {q v1 v0 r n n1 : Nat} (hn : n < v1 * 4294967296 + v0) (h1 : n1 < 4294967296) (hv : 2147483648 ≤ v1) (h : q * v1 + r = n) (h2 : 4294967296 ≤ q ∨ 4294967296 * r + n1 < q * v0) : (n * 4294967296 + n1) / (v1 * 4294967296 + v0) < q := by
  rcases h2 with h2 | h2
  · exact Nat.lt_of_lt_of_le (kn_top hn h1) h2
  · have h3 := kn_gt h h2
    rw [Nat.div_lt_iff_lt_mul (by omega)]
    exact h3
/-- It is not. -/
theorem kn_done {q v1 v0 r n n1 : Nat} (hv : 2147483648 ≤ v1) (h : q * v1 + r = n) (hD : (n * 4294967296 + n1) / (v1 * 4294967296 + v0) ≤ q) (h2 : q * v0 ≤ 4294967296 * r + n1) : q = (n * 4294967296 + n1) / (v1 * 4294967296 + v0) := by
  have h3 := kn_le h h2
  have h4 : q ≤ (n * 4294967296 + n1) / (v1 * 4294967296 + v0) := by
    rw [Nat.le_div_iff_mul_le (by omega)]
    exact h3
  omega
theorem kn_break {q v1 v0 r n n1 : Nat} (hv : 2147483648 ≤ v1) (hv0 : v0 < 4294967296) (hq : q ≤ 4294967296) (hr : 4294967296 ≤ r) (h : q * v1 + r = n) (hD : (n * 4294967296 + n1) / (v1 * 4294967296 + v0) ≤ q) : q = (n * 4294967296 + n1) / (v1 * 4294967296 + v0) := by
  refine kn_done hv h hD ?_
  have h1 : q * v0 ≤ 4294967296 * v0 := Nat.mul_le_mul_right _ hq
  generalize q * v0 = b at *
  omega
theorem kn_pred {q v1 r n : Nat} (h : q * v1 + r = n) (hq : 0 < q) : (q - 1) * v1 + (r + v1) = n := by
  obtain ⟨p, rfl⟩ : ∃ p, q = p + 1 := ⟨q - 1, by omega⟩
  rw [Nat.add_mul, Nat.one_mul] at h
  simp only [Nat.add_sub_cancel]
  omega

/-- The two half words of the quotient, and the rest. -/
theorem kn_all {X y s n32 n1 n0 : Nat} (hy : 0 < y) (hX : X * 2 ^ s = (n32 * 4294967296 + n1) * 4294967296 + n0) :
    (n32 * 4294967296 + n1) / (y * 2 ^ s) * 4294967296 + ((n32 * 4294967296 + n1) % (y * 2 ^ s) * 4294967296 + n0) / (y * 2 ^ s) = X / y ∧
    ((n32 * 4294967296 + n1) % (y * 2 ^ s) * 4294967296 + n0) % (y * 2 ^ s) / 2 ^ s = X % y := by
  have hp : 0 < 2 ^ s := Nat.pow_pos (by omega)
  have hV : 0 < y * 2 ^ s := Nat.mul_pos hy hp
  have e1 := Nat.div_add_mod (n32 * 4294967296 + n1) (y * 2 ^ s)
  obtain ⟨q1, hq1⟩ : ∃ q1, q1 = (n32 * 4294967296 + n1) / (y * 2 ^ s) := ⟨_, rfl⟩
  obtain ⟨r1, hr1⟩ : ∃ r1, r1 = (n32 * 4294967296 + n1) % (y * 2 ^ s) := ⟨_, rfl⟩
  rw [← hq1, ← hr1] at e1 ⊢
  have hX2 : X * 2 ^ s = y * 2 ^ s * (q1 * 4294967296) + (r1 * 4294967296 + n0) := by
    rw [hX, ← e1, Nat.add_mul, Nat.mul_assoc (y * 2 ^ s)]
    omega
  have d := Nat.mul_div_mul_right X y hp
  have m := Nat.mul_mod_mul_right (2 ^ s) X y
  rw [hX2, Nat.mul_add_div hV] at d
  rw [hX2, Nat.mul_add_mod] at m
  refine ⟨d, ?_⟩
  rw [m, Nat.mul_div_cancel _ hp]

/-- A number of b digits, moved up so that the first one stands foremost. -/
theorem shift_up {y b : Nat} (hb : b ≤ 64) (hb1 : 1 ≤ b) (h1 : 2 ^ (b - 1) ≤ y) (h2 : y < 2 ^ b) : 9223372036854775808 ≤ y * 2 ^ (64 - b) ∧ y * 2 ^ (64 - b) < 18446744073709551616 := by
  have e1 : 2 ^ (b - 1) * 2 ^ (64 - b) = 9223372036854775808 := by rw [← Nat.pow_add, show b - 1 + (64 - b) = 63 by omega]
  have e2 : 2 ^ b * 2 ^ (64 - b) = 18446744073709551616 := by rw [← Nat.pow_add, show b + (64 - b) = 64 by omega]
  have hp : 0 < 2 ^ (64 - b) := Nat.pow_pos (by omega)
  exact ⟨by rw [← e1]; exact Nat.mul_le_mul_right _ h1, by rw [← e2]; exact Nat.mul_lt_mul_of_pos_right h2 hp⟩

theorem shift_two {hi lo y b : Nat} (hb : b ≤ 64) (hy : hi < y) (hlo : lo < 18446744073709551616) :
    (hi * 18446744073709551616 + lo) * 2 ^ (64 - b) = ((hi * 2 ^ (64 - b) + lo / 2 ^ b) * 4294967296 + lo * 2 ^ (64 - b) % 18446744073709551616 / 4294967296) * 4294967296 + lo * 2 ^ (64 - b) % 18446744073709551616 % 4294967296 ∧
    hi * 2 ^ (64 - b) + lo / 2 ^ b < y * 2 ^ (64 - b) := by
  have hp : 0 < 2 ^ (64 - b) := Nat.pow_pos (by omega)
  have hpb : 0 < 2 ^ b := Nat.pow_pos (by omega)
  have e2 : 2 ^ b * 2 ^ (64 - b) = 18446744073709551616 := by rw [← Nat.pow_add, show b + (64 - b) = 64 by omega]
  have e3 := Nat.div_add_mod lo (2 ^ b)
  have hm : lo % 2 ^ b < 2 ^ b := Nat.mod_lt _ hpb
  have e4 : lo * 2 ^ (64 - b) % 18446744073709551616 = lo % 2 ^ b * 2 ^ (64 - b) := by
    rw [← e2, Nat.mul_mod_mul_right]
  have e5 : lo * 2 ^ (64 - b) = lo / 2 ^ b * 18446744073709551616 + lo % 2 ^ b * 2 ^ (64 - b) := by
    conv => lhs; rw [← e3]
    rw [Nat.add_mul, ← e2, Nat.mul_comm (2 ^ b) (lo / 2 ^ b), Nat.mul_assoc]
  constructor
  · rw [e4]
    have e6 : (hi * 18446744073709551616 + lo) * 2 ^ (64 - b) = hi * 2 ^ (64 - b) * 18446744073709551616 + lo * 2 ^ (64 - b) := by
      rw [Nat.add_mul, Nat.mul_assoc, Nat.mul_comm 18446744073709551616, ← Nat.mul_assoc]
    rw [e6, e5]
    generalize hi * 2 ^ (64 - b) = H at *
    generalize lo / 2 ^ b = q at *
    generalize lo % 2 ^ b * 2 ^ (64 - b) = r at *
    omega
  · have hq : lo / 2 ^ b < 2 ^ (64 - b) := by
      rw [Nat.div_lt_iff_lt_mul hpb, Nat.mul_comm, e2]
      exact hlo
    have h1 : (hi + 1) * 2 ^ (64 - b) ≤ y * 2 ^ (64 - b) := Nat.mul_le_mul_right _ hy
    rw [Nat.add_mul, Nat.one_mul] at h1
    omega

end Go.Proofs.Ytldckefnelgdgaa
