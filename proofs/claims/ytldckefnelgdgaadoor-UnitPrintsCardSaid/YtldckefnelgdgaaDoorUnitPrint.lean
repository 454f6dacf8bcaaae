/- Layer 8: Print, and the reference's, by contracts. -/
import Derived.Test.YtldckefnelgdgaaDoorUnitGlob
namespace Go.Proofs.YtldckefnelgdgaaDoor
open Go.RowKit
set_option linter.unusedSimpArgs false
set_option linter.unusedVariables false

def printX (d : Int) : List UInt8 × Int := if d < 0 ∨ 70368744177664 < d then ([], 1) else if d % 65536 = 0 then (Lib.decDigits (d.toNat / 65536), 0) else (Lib.decDigits d.toNat ++ [115, 112], 0)

theorem decDigits_len : ∀ (n k : Nat), n < 10 ^ (k + 1) → (Lib.decDigits n).length ≤ k + 1 := by
  intro n k
  induction k generalizing n with
  | zero => intro h; rw [Lib.decDigits, dif_pos (by simpa using h)]; simp
  | succ k ih =>
    intro h
    rw [Lib.decDigits]
    by_cases h1 : n < 10
    · rw [dif_pos h1]; simp
    · rw [dif_neg h1]
      have := ih (n / 10) (by rw [Nat.pow_succ] at h; exact Nat.div_lt_of_lt_mul (by omega))
      simp
      omega

theorem digit_text : ∀ n : Nat, n < 10 → (⟨#[48, 49, 50, 51, 52, 53, 54, 55, 56, 57]⟩ : ByteArray).extract n (n + 1) = B (Lib.decDigits n) := by
  intro n h
  rw [Lib.decDigits, dif_pos h]
  rcases (show n = 0 ∨ n = 1 ∨ n = 2 ∨ n = 3 ∨ n = 4 ∨ n = 5 ∨ n = 6 ∨ n = 7 ∨ n = 8 ∨ n = 9 by omega) with rfl | rfl | rfl | rfl | rfl | rfl | rfl | rfl | rfl | rfl <;> rfl

set_option maxHeartbeats 1600000 in
theorem rdecimal_any : ∀ (m n : Nat), n ≤ m → n ≤ 9223372036854775807 → ∀ w : World, Calls Tryd.prog 24 #[.int .i64 (n : Int)] w fun e w' => e = .returned (.string (B (Lib.decDigits n))) ∧ w = w' := by
  intro m
  induction m with
  | zero =>
    intro n hn _ w
    obtain rfl : n = 0 := by omega
    have e0 := digit_text 0 (by omega)
    go_enter Tryd.func24, Tryd.ntmps24
    go_wp2_with fail
    go_ret
    exact ⟨by rw [← e0]; rfl, rfl⟩
  | succ m ih =>
    intro n hn hmax w
    by_cases h10 : n < 10
    · have e0 := digit_text n h10
      have h1 : (n : Int) < 10 := by omega
      have h2 : ((n : Int) + 1).toNat = n + 1 := by omega
      have h3 : (0 : Int) ≤ (n : Int) := by omega
      have h4 : (n : Int) ≤ (n : Int) + 1 := by omega
      have h5 : (n : Int) + 1 ≤ 10 := by omega
      go_enter Tryd.func24, Tryd.ntmps24
      go_wp2_with fail
      go_ret
      exact ⟨by rw [← e0]; rfl, rfl⟩
    · have i1 := ih (n / 10) (by omega) (by omega)
      have i2 := ih (n % 10) (by omega) (by omega)
      have e1 : ((n / 10 : Nat) : Int) = (n : Int) / 10 := rfl
      have e2 : ((n % 10 : Nat) : Int) = (n : Int) % 10 := rfl
      rw [e1] at i1
      rw [e2] at i2
      have l1 := decDigits_len (n / 10) 18 (by have : (10 : Nat) ^ 19 = 10000000000000000000 := by decide
                                               omega)
      have l2 := decDigits_len (n % 10) 0 (by omega)
      have hD : Lib.decDigits n = Lib.decDigits (n / 10) ++ Lib.decDigits (n % 10) := by
        rw [Lib.decDigits.eq_1 n, dif_neg h10, Lib.decDigits.eq_1 (n % 10), dif_pos (by omega)]
      have hA := B_append (Lib.decDigits (n / 10)) (Lib.decDigits (n % 10))
      rw [← hD] at hA
      have z1 := B_size (Lib.decDigits (n / 10))
      have z2 := B_size (Lib.decDigits (n % 10))
      generalize Lib.decDigits (n / 10) = x1 at *
      generalize Lib.decDigits (n % 10) = x2 at *
      generalize Lib.decDigits n = x at *
      have H1 := hid i1
      have H2 := hid i2
      have h1 : (10 : Int) ≤ (n : Int) := by omega
      clear ih i1 i2 e1 e2 hD
      go_enter Tryd.func24, Tryd.ntmps24
      go_wp2_with fail
      with_reducible refine (H1.out _).mono ?_
      rintro e w1 ⟨rfl, rfl⟩
      go_wp2_with fail
      with_reducible refine (H2.out _).mono ?_
      rintro e w2 ⟨rfl, rfl⟩
      go_wp2_with fail
      go_ret
      exact ⟨rfl, rfl⟩

set_option maxHeartbeats 1600000 in
theorem uprint_any (d : Int) (w : World) (G : Glob w) : Calls Tryd.prog 12 #[.int .i64 d] w fun e w' => e = .returned (.tuple #[.string (B (printX d).1), .int .i64 (printX d).2]) ∧ Keep [] w w' := by
  by_cases hok : d < 0 ∨ 70368744177664 < d
  · have HX := hid (show printX d = ([], 1) by unfold printX; rw [if_pos hok])
    have key : d < 0 ∨ (0 ≤ d ∧ 70368744177664 < d) := by omega
    clear hok
    rcases key with k1 | ⟨k1, k2⟩
    all_goals
      go_enter Tryd.func12, Tryd.ntmps12
      go_wp2
      go_ret2
      exact ⟨by rw [HX.out]; rfl, Keep.refl _ _⟩
  · obtain ⟨n, rfl⟩ : ∃ n : Nat, d = (n : Int) := ⟨d.toNat, by omega⟩
    have hn : (n : Int) ≤ 70368744177664 := by omega
    have k1 : decide ((n : Int) < 0) = false := decide_eq_false (by omega)
    cases hm : ((n : Int) % 65536 == 0) with
    | true =>
      have hm2 : (n : Int) % 65536 = 0 := by simpa using hm
      have HX := hid (show printX (n : Int) = (Lib.decDigits (n / 65536), 0) by unfold printX; rw [if_neg hok, if_pos hm2]; rfl)
      have C := fun w (G : Glob w) => itoa_any (n / 65536) (by omega) w G
      have e1 : ((n / 65536 : Nat) : Int) = (n : Int) / 65536 := rfl
      rw [e1] at C
      have HC := hid C
      clear hok hm2 C e1
      go_enter Tryd.func12, Tryd.ntmps12
      go_wp2_with fail
      with_reducible refine (HC.out _ G).mono ?_
      rintro e w1 ⟨rfl, K1⟩
      go_wp2
      go_ret2
      exact ⟨by rw [HX.out]; rfl, K1⟩
    | false =>
      have hm2 : ¬ (n : Int) % 65536 = 0 := by simpa using hm
      have HX := hid (show printX (n : Int) = (Lib.decDigits n ++ [115, 112], 0) by unfold printX; rw [if_neg hok, if_neg hm2]; rfl)
      have C := fun w (G : Glob w) => itoa_any n (by omega) w G
      have hA := B_append (Lib.decDigits n) [115, 112]
      have z1 := B_size (Lib.decDigits n)
      have l1 := decDigits_len n 18 (by have : (10 : Nat) ^ 19 = 10000000000000000000 := by decide
                                        omega)
      have hA2 : B (Lib.decDigits n) ++ ⟨#[115, 112]⟩ = B (Lib.decDigits n ++ [115, 112]) := hA
      generalize Lib.decDigits n = x at *
      have HC := hid C
      clear hok hm2 C hA
      go_enter Tryd.func12, Tryd.ntmps12
      go_wp2_with fail
      with_reducible refine (HC.out _ G).mono ?_
      rintro e w1 ⟨rfl, K1⟩
      go_wp2
      go_ret2
      exact ⟨by rw [HX.out]; rfl, K1⟩
set_option maxHeartbeats 1600000 in
theorem rprint_any (d : Int) (w : World) (G : Glob w) : Calls Tryd.prog 13 #[.int .i64 d] w fun e w' => e = .returned (.tuple #[.string (B (printX d).1), .int .i64 (printX d).2]) ∧ Keep [] w w' := by
  by_cases hok : d < 0 ∨ 70368744177664 < d
  · have HX := hid (show printX d = ([], 1) by unfold printX; rw [if_pos hok])
    have key : d < 0 ∨ (0 ≤ d ∧ 70368744177664 < d) := by omega
    clear hok
    rcases key with k1 | ⟨k1, k2⟩
    all_goals
      go_enter Tryd.func13, Tryd.ntmps13
      go_wp2
      go_ret2
      exact ⟨by rw [HX.out]; rfl, Keep.refl _ _⟩
  · obtain ⟨n, rfl⟩ : ∃ n : Nat, d = (n : Int) := ⟨d.toNat, by omega⟩
    have hn : (n : Int) ≤ 70368744177664 := by omega
    have k1 : decide ((n : Int) < 0) = false := decide_eq_false (by omega)
    cases hm : ((n : Int) % 65536 == 0) with
    | true =>
      have hm2 : (n : Int) % 65536 = 0 := by simpa using hm
      have HX := hid (show printX (n : Int) = (Lib.decDigits (n / 65536), 0) by unfold printX; rw [if_neg hok, if_pos hm2]; rfl)
      have C := fun w (G : Glob w) => rdecimal_any (n / 65536) (n / 65536) (Nat.le_refl _) (by omega) w
      have e1 : ((n / 65536 : Nat) : Int) = (n : Int) / 65536 := rfl
      rw [e1] at C
      have HC := hid C
      clear hok hm2 C e1
      go_enter Tryd.func13, Tryd.ntmps13
      go_wp2_with fail
      with_reducible refine (HC.out _ G).mono ?_
      rintro e w1 ⟨rfl, K1⟩
      go_wp2
      go_ret2
      exact ⟨by rw [HX.out]; rfl, K1 ▸ Keep.refl _ _⟩
    | false =>
      have hm2 : ¬ (n : Int) % 65536 = 0 := by simpa using hm
      have HX := hid (show printX (n : Int) = (Lib.decDigits n ++ [115, 112], 0) by unfold printX; rw [if_neg hok, if_neg hm2]; rfl)
      have C := fun w (G : Glob w) => rdecimal_any n n (Nat.le_refl _) (by omega) w
      have hA := B_append (Lib.decDigits n) [115, 112]
      have z1 := B_size (Lib.decDigits n)
      have l1 := decDigits_len n 18 (by have : (10 : Nat) ^ 19 = 10000000000000000000 := by decide
                                        omega)
      have hA2 : B (Lib.decDigits n) ++ ⟨#[115, 112]⟩ = B (Lib.decDigits n ++ [115, 112]) := hA
      generalize Lib.decDigits n = x at *
      have HC := hid C
      clear hok hm2 C hA
      go_enter Tryd.func13, Tryd.ntmps13
      go_wp2_with fail
      with_reducible refine (HC.out _ G).mono ?_
      rintro e w1 ⟨rfl, K1⟩
      go_wp2
      go_ret2
      exact ⟨by rw [HX.out]; rfl, K1 ▸ Keep.refl _ _⟩
end Go.Proofs.YtldckefnelgdgaaDoor
