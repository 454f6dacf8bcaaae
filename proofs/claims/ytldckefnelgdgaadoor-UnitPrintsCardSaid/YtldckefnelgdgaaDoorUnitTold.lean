/- Layer 8: told: n * num / den, to the nearest, by a contract. -/
import Derived.Test.YtldckefnelgdgaaDoorRow
import Derived.Outline
import Derived.LoopTactic
import Derived.Laws.Bits64
import Derived.Laws.BitsLemmas
namespace Go.Proofs.YtldckefnelgdgaaDoor
open Go.RowKit
set_option linter.unusedSimpArgs false
set_option linter.unusedVariables false

/-- n * num / den to the nearest, the greater one of two; none beyond the greatest length. -/
def qr (n num den : Nat) : Option Nat := if 70368744177664 < n * num / den ∨ (n * num / den = 70368744177664 ∧ 0 < n * num % den) then none else some (if den ≤ 2 * (n * num % den) then n * num / den + 1 else n * num / den)
def qrV (x : Option Nat) : Int := match x with | none => 0 | some v => v
def qrE (x : Option Nat) : Int := match x with | none => 81 | some _ => 0

/-- By parts: whole dens, and two halves of num. -/
theorem told_parts {n num den H L : Nat} (hd : 1 ≤ den) (hn : num = H * 1048576 + L) :
    n * num / den = n / den * num + (n % den * H / den) * 1048576 + ((n % den * H % den) * 1048576 + n % den * L) / den ∧ n * num % den = ((n % den * H % den) * 1048576 + n % den * L) % den := by
  have h1 := Nat.div_add_mod n den
  have h2 := Nat.div_add_mod (n % den * H) den
  have e : n * num = den * (n / den * num + (n % den * H / den) * 1048576) + ((n % den * H % den) * 1048576 + n % den * L) := by
    have a1 : n * num = den * (n / den) * num + n % den * num := by rw [← Nat.add_mul, h1]
    have a2 : n % den * num = n % den * H * 1048576 + n % den * L := by rw [hn, Nat.mul_add, ← Nat.mul_assoc]
    have a3 : n % den * H * 1048576 = (den * (n % den * H / den) + n % den * H % den) * 1048576 := by rw [h2]
    rw [a1, a2, a3, Nat.mul_add den, Nat.add_mul, Nat.mul_assoc den, Nat.mul_assoc den]
    omega
  rw [e, Nat.mul_add_div (by omega), Nat.mul_add_mod]
  exact ⟨rfl, rfl⟩

theorem told_over {n num den : Nat} (hd : 1 ≤ den) (hm : 0 < num) (h : 70368744177664 / num < n / den) : qr n num den = none := by
  unfold qr
  rw [if_pos]
  left
  rw [Nat.div_lt_iff_lt_mul hm] at h
  refine Nat.lt_of_lt_of_le h ?_
  rw [Nat.le_div_iff_mul_le (by omega), Nat.mul_right_comm]
  exact Nat.mul_le_mul_right _ (Nat.div_mul_le_self n den)

theorem told_fits {n num den : Nat} (hm : 0 < num) (h : n / den ≤ 70368744177664 / num) : n / den * num ≤ 70368744177664 := by
  rwa [Nat.le_div_iff_mul_le hm] at h

theorem and_low (p : Nat) (hp : p < 9223372036854775808) : bits .and .i64 (p : Int) 1048575 = ((p % 1048576 : Nat) : Int) := by
  have e63 : (2 : Nat) ^ 63 = 9223372036854775808 := by decide
  have e63' : (2 : Int) ^ 63 = 9223372036854775808 := by decide
  have hw : ∀ n : Int, 0 ≤ n → n < 2 ^ 63 → IntKind.i64.wrap n = n := fun n h0 h1 => by
    rw [e63'] at h1
    exact IntWalk.i64_in n (by omega)
  have h := (bits_nat .i64 63 (by decide) hw p 1048575 (by rw [e63]; exact hp) (by decide)).1
  have e : p &&& 1048575 = p % 1048576 := Nat.and_two_pow_sub_one_eq_mod p 20
  rw [e] at h
  exact h

def ToldU (x : Option Nat) (w : World) (e : Ending) (w' : World) : Prop := e = .returned (.tuple #[.int .i64 (qrV x), .int .i64 (qrE x)]) ∧ Keep [] w w'

set_option maxHeartbeats 3200000 in
theorem utold_any (n num den : Nat) (w : World) (hn : n ≤ 2000000000000000000) (hm : num ≤ 70368744177664) (hd : 1 ≤ den) (hd2 : den ≤ 1270000) :
    Calls Tryd.prog 19 #[.int .i64 (n : Int), .int .i64 (num : Int), .int .i64 (den : Int)] w fun e w' => ToldU (qr n num den) w e w' := by
  have HO := told_over (n := n) (num := num) hd
  have HF := told_fits (n := n) (num := num) (den := den)
  obtain ⟨P1, P2⟩ := told_parts (n := n) (num := num) (den := den) (H := num / 1048576) (L := num % 1048576) hd (by have := Nat.div_add_mod num 1048576; omega)
  have x1 : n % den < den := Nat.mod_lt _ (by omega)
  have x2 : n / den ≤ n := Nat.div_le_self _ _
  have x3 : n % den * (num / 1048576) / den ≤ num / 1048576 := Nat.div_le_of_le_mul (Nat.mul_le_mul_right _ (Nat.le_of_lt x1))
  have x4 : n % den * (num / 1048576) % den < den := Nat.mod_lt _ (by omega)
  have x5 : n % den * (num / 1048576) ≤ 1270000 * 67108864 := Nat.mul_le_mul (by omega) (by omega)
  have x6 : n % den * (num % 1048576) ≤ 1270000 * 1048576 := Nat.mul_le_mul (by omega) (by omega)
  have cA : (n : Int) / (den : Int) = ((n / den : Nat) : Int) := rfl
  have cR : (n : Int) % (den : Int) = ((n % den : Nat) : Int) := rfl
  have cT : (70368744177664 : Int) / (num : Int) = ((70368744177664 / num : Nat) : Int) := rfl
  have cH : (num : Int) / 1048576 = ((num / 1048576 : Nat) : Int) := rfl
  have cL : bits .and .i64 (num : Int) 1048575 = ((num % 1048576 : Nat) : Int) := and_low num (by omega)
  have x7 : num / 1048576 ≤ 67108864 := by omega
  have x8 : num % 1048576 < 1048576 := by omega
  have hQ : qr n num den = if 70368744177664 < n * num / den ∨ (n * num / den = 70368744177664 ∧ 0 < n * num % den) then none else some (if den ≤ 2 * (n * num % den) then n * num / den + 1 else n * num / den) := rfl
  rw [P1, P2] at hQ
  clear P1 P2
  obtain ⟨an, han⟩ : ∃ x, x = n / den := ⟨_, rfl⟩
  obtain ⟨rn, hrn⟩ : ∃ x, x = n % den := ⟨_, rfl⟩
  obtain ⟨tn, htn⟩ : ∃ x, x = 70368744177664 / num := ⟨_, rfl⟩
  obtain ⟨hn', hhn⟩ : ∃ x, x = num / 1048576 := ⟨_, rfl⟩
  obtain ⟨ln, hln⟩ : ∃ x, x = num % 1048576 := ⟨_, rfl⟩
  rw [← han] at HO HF x2 cA hQ
  rw [← hrn] at x1 x3 x4 x5 x6 cR hQ
  rw [← htn] at HO HF cT
  rw [← hhn] at x3 x4 x5 x7 cH hQ
  rw [← hln] at x6 x8 cL hQ
  clear hhn hln
  obtain ⟨mn, hmn⟩ : ∃ x, x = rn * hn' := ⟨_, rfl⟩
  rw [← hmn] at x3 x4 x5 hQ
  have cQ1 : (mn : Int) / (den : Int) = ((mn / den : Nat) : Int) := rfl
  have cR1 : (mn : Int) % (den : Int) = ((mn % den : Nat) : Int) := rfl
  obtain ⟨q1, hq1⟩ : ∃ x, x = mn / den := ⟨_, rfl⟩
  obtain ⟨r1, hr1⟩ : ∃ x, x = mn % den := ⟨_, rfl⟩
  rw [← hq1] at x3 cQ1 hQ
  rw [← hr1] at x4 cR1 hQ
  clear hq1 hr1
  obtain ⟨pn, hpn⟩ : ∃ x, x = rn * ln := ⟨_, rfl⟩
  rw [← hpn] at x6 hQ
  obtain ⟨bn, hbn⟩ : ∃ x, x = r1 * 1048576 + pn := ⟨_, rfl⟩
  rw [← hbn] at hQ
  have cQ2 : (bn : Int) / (den : Int) = ((bn / den : Nat) : Int) := rfl
  have cB2 : (bn : Int) % (den : Int) = ((bn % den : Nat) : Int) := rfl
  have x9 : bn / den ≤ bn := Nat.div_le_self _ _
  have x10 : bn % den < den := Nat.mod_lt _ (by omega)
  obtain ⟨q2, hq2⟩ : ∃ x, x = bn / den := ⟨_, rfl⟩
  obtain ⟨b2, hb2⟩ : ∃ x, x = bn % den := ⟨_, rfl⟩
  rw [← hq2] at x9 cQ2 hQ
  rw [← hb2] at x10 cB2 hQ
  clear hq2 hb2
  obtain ⟨N, hN⟩ : ∃ x : Int, x = (n : Int) := ⟨_, rfl⟩
  obtain ⟨M, hM⟩ : ∃ x : Int, x = (num : Int) := ⟨_, rfl⟩
  obtain ⟨D, hD⟩ : ∃ x : Int, x = (den : Int) := ⟨_, rfl⟩
  obtain ⟨A, hA⟩ : ∃ x : Int, x = (an : Int) := ⟨_, rfl⟩
  obtain ⟨R, hR⟩ : ∃ x : Int, x = (rn : Int) := ⟨_, rfl⟩
  obtain ⟨T, hT⟩ : ∃ x : Int, x = (tn : Int) := ⟨_, rfl⟩
  obtain ⟨Hi, hHi⟩ : ∃ x : Int, x = (hn' : Int) := ⟨_, rfl⟩
  obtain ⟨Lo, hLo⟩ : ∃ x : Int, x = (ln : Int) := ⟨_, rfl⟩
  rw [← hN, ← hM, ← hD]
  rw [← hN, ← hD, ← hA] at cA
  rw [← hN, ← hD, ← hR] at cR
  rw [← hM, ← hT] at cT
  rw [← hM, ← hHi] at cH
  rw [← hM, ← hLo] at cL
  have n0 : 0 ≤ N := by omega
  have n1 : N ≤ 2000000000000000000 := by omega
  have m0 : 0 ≤ M := by omega
  have m1 : M ≤ 70368744177664 := by omega
  have d0 : 1 ≤ D := by omega
  have d1 : D ≤ 1270000 := by omega
  have a0 : 0 ≤ A := by clear cA cR cT cH cL cQ1 cR1 cQ2 cB2; omega
  have t0 : 0 ≤ T := by clear cA cR cT cH cL cQ1 cR1 cQ2 cB2; omega
  have ap : A ≤ N := by clear cA cR cT cH cL cQ1 cR1 cQ2 cB2; omega
  by_cases hbig : 0 < num ∧ 0 < n ∧ tn < an
  · obtain ⟨g1, g2, g3⟩ := hbig
    have HN := hid (HO g1 g3)
    have k1 : 0 < N := by omega
    have k2 : 0 < M := by omega
    have k3 : T < A := by clear cA cR cT cH cL cQ1 cR1 cQ2 cB2; omega
    clear HO HF hQ han hrn htn cR cH cL cQ1 cR1 cQ2 cB2 x1 x2 x3 x4 x5 x6 x7 x8 x9 x10 hN hM hD hA hR hT hHi hLo hmn hpn hbn g1 g2 g3 hn hm hd hd2
    go_enter Tryd.func19, Tryd.ntmps19
    go_upto_region 1 with (fail)
    go_quiet (fail)
    go_wp2
    go_ret2
    exact ⟨by rw [HN.out]; rfl, (Keep.refl _ _).drewN _⟩
  · have hle : 0 < num → an ≤ tn := fun h => by
      apply Classical.byContradiction
      intro hc
      rcases Nat.eq_zero_or_pos n with h0 | h0
      · have : an = 0 := by rw [han, h0, Nat.zero_div]
        omega
      · exact hbig ⟨h, h0, by omega⟩
    have hfit : an * num ≤ 70368744177664 := by
      rcases Nat.eq_zero_or_pos num with h0 | h0
      · rw [h0, Nat.mul_zero]; omega
      · exact HF h0 (hle h0)
    obtain ⟨sn, hsn⟩ : ∃ x, x = an * num := ⟨_, rfl⟩
    rw [← hsn] at hfit hQ
    obtain ⟨S0, hS0⟩ : ∃ x : Int, x = (sn : Int) := ⟨_, rfl⟩
    obtain ⟨Mn, hMn⟩ : ∃ x : Int, x = (mn : Int) := ⟨_, rfl⟩
    obtain ⟨Q1, hQ1⟩ : ∃ x : Int, x = (q1 : Int) := ⟨_, rfl⟩
    obtain ⟨R1, hR1⟩ : ∃ x : Int, x = (r1 : Int) := ⟨_, rfl⟩
    obtain ⟨Pn, hPn⟩ : ∃ x : Int, x = (pn : Int) := ⟨_, rfl⟩
    obtain ⟨B, hB⟩ : ∃ x : Int, x = (bn : Int) := ⟨_, rfl⟩
    obtain ⟨Q2, hQ2⟩ : ∃ x : Int, x = (q2 : Int) := ⟨_, rfl⟩
    obtain ⟨B2, hB2⟩ : ∃ x : Int, x = (b2 : Int) := ⟨_, rfl⟩
    rw [← hMn, ← hD, ← hQ1] at cQ1
    rw [← hMn, ← hD, ← hR1] at cR1
    rw [← hB, ← hD, ← hQ2] at cQ2
    rw [← hB, ← hD, ← hB2] at cB2
    have f1 : A * M = S0 := by rw [hA, hM, hS0, hsn, Int.natCast_mul]
    have f2 : R * Hi = Mn := by rw [hR, hHi, hMn, hmn, Int.natCast_mul]
    have f3 : R * Lo = Pn := by rw [hR, hLo, hPn, hpn, Int.natCast_mul]
    have f4 : R1 * 1048576 + Pn = B := by clear cA cR cT cH cL cQ1 cR1 cQ2 cB2 f1 f2 f3; omega
    have b0 : 0 ≤ S0 ∧ S0 ≤ 70368744177664 ∧ 0 ≤ Mn ∧ Mn ≤ 85228257280000 ∧ 0 ≤ Q1 ∧ Q1 ≤ 67108864 ∧ 0 ≤ R1 ∧ R1 ≤ 1270000 ∧ 0 ≤ Pn ∧ Pn ≤ 1331691520000 ∧ 0 ≤ B ∧ B ≤ 2663383040000 ∧ 0 ≤ Q2 ∧ Q2 ≤ 2663383040000 ∧ 0 ≤ B2 ∧ B2 ≤ 1270000 ∧ 0 ≤ R ∧ R ≤ 1270000 ∧ 0 ≤ Hi ∧ 0 ≤ Lo := by
      clear cA cR cT cH cL cQ1 cR1 cQ2 cB2 f1 f2 f3
      omega
    obtain ⟨b1, b2', b3, b4, b5, b6, b7, b8, b9, b10, b11, b12, b13, b14, b15, b16, b17, b18, b19, b20⟩ := b0
    have e1 : wrap64 (A * M) = S0 := by rw [f1]; unfold wrap64; clear cA cR cT cH cL cQ1 cR1 cQ2 cB2 f1 f2 f3; omega
    have e2 : wrap64 (R * Hi) = Mn := by rw [f2]; unfold wrap64; clear cA cR cT cH cL cQ1 cR1 cQ2 cB2 f1 f2 f3; omega
    have e3 : wrap64 (R * Lo) = Pn := by rw [f3]; unfold wrap64; clear cA cR cT cH cL cQ1 cR1 cQ2 cB2 f1 f2 f3; omega
    obtain ⟨S1, hS1⟩ : ∃ x : Int, x = S0 + Q1 * 1048576 := ⟨_, rfl⟩
    obtain ⟨S2, hS2⟩ : ∃ x : Int, x = S1 + Q2 := ⟨_, rfl⟩
    have s1 : 0 ≤ S1 ∧ S1 ≤ 140737488355328 ∧ 0 ≤ S2 ∧ S2 ≤ 150000000000000 := by clear cA cR cT cH cL cQ1 cR1 cQ2 cB2 f1 f2 f3; omega
    obtain ⟨s10, s11, s20, s21⟩ := s1
    have g1 : S0 + Q1 * 1048576 = S1 := hS1.symm
    have g2 : S1 + Q2 = S2 := hS2.symm
    have hSn : S2 = ((sn + q1 * 1048576 + q2 : Nat) : Int) := by clear cA cR cT cH cL cQ1 cR1 cQ2 cB2 f1 f2 f3; omega
    have kt : A ≤ T ∨ M ≤ 0 ∨ N ≤ 0 := by
      clear cA cR cT cH cL cQ1 cR1 cQ2 cB2 f1 f2 f3
      rcases Nat.eq_zero_or_pos num with h0 | h0
      · omega
      · have := hle h0; omega
    have kt2 : (0 < N ∧ 0 < M ∧ A ≤ T) ∨ (0 < N ∧ M ≤ 0) ∨ N ≤ 0 := by clear cA cR cT cH cL cQ1 cR1 cQ2 cB2 f1 f2 f3; omega
    have kf : (70368744177664 < S2 ∧ qr n num den = none) ∨ (S2 ≤ 70368744177664 ∧ (S2 == 70368744177664) = true ∧ 0 < B2 ∧ qr n num den = none) ∨ (S2 ≤ 70368744177664 ∧ ((S2 == 70368744177664) = false ∨ ((S2 == 70368744177664) = true ∧ B2 ≤ 0)) ∧ ((D ≤ 2 * B2 ∧ qr n num den = some (S2 + 1).toNat) ∨ (2 * B2 < D ∧ qr n num den = some S2.toNat))) := by
      clear cA cR cT cH cL cQ1 cR1 cQ2 cB2 f1 f2 f3
      rw [hQ]
      by_cases c1 : 70368744177664 < S2
      · exact .inl ⟨c1, by rw [if_pos (.inl (by omega))]⟩
      · by_cases c2 : S2 = 70368744177664
        · by_cases c3 : 0 < B2
          · exact .inr (.inl ⟨by omega, by simp [c2], c3, by rw [if_pos (.inr ⟨by omega, by omega⟩)]⟩)
          · refine .inr (.inr ⟨by omega, .inr ⟨by simp [c2], by omega⟩, ?_⟩)
            rw [if_neg (by omega)]
            by_cases c4 : D ≤ 2 * B2
            · exact .inl ⟨c4, by rw [if_pos (by omega)]; congr 1; omega⟩
            · exact .inr ⟨by omega, by rw [if_neg (by omega)]; congr 1; omega⟩
        · refine .inr (.inr ⟨by omega, .inl (by simp [c2]), ?_⟩)
          rw [if_neg (by omega)]
          by_cases c4 : D ≤ 2 * B2
          · exact .inl ⟨c4, by rw [if_pos (by omega)]; congr 1; omega⟩
          · exact .inr ⟨by omega, by rw [if_neg (by omega)]; congr 1; omega⟩
    clear HO HF hQ han hrn htn x1 x2 x3 x4 x5 x6 x7 x8 x9 x10 hN hM hD hA hR hT hHi hLo hmn hpn hbn hn hm hd hd2 hbig hle hfit hsn hS0 hMn hQ1 hR1 hPn hB hQ2 hB2 f1 f2 f3 hS1 hS2 hSn kt
    go_enter Tryd.func19, Tryd.ntmps19
    go_upto_region 1 with (fail)
    have KT : ∀ k, Keep [] w (w.drewN k) := fun k => (Keep.refl _ _).drewN _
    go_cut [27] (fun v wc => v = .bool false ∧ ∃ k, wc = w.drewN k)
    case first =>
      rcases kt2 with ⟨k1, k2, k3⟩ | ⟨k1, k2⟩ | k1
      · have dk1 : decide (0 < N) = true := decide_eq_true k1
        have dk2 : decide (0 < M) = true := decide_eq_true k2
        have dk3 : decide (T < A) = false := decide_eq_false (by omega)
        go_quiet (fail)
        go_wp2
        go_meet
        exact ⟨rfl, _, rfl⟩
      · have dk1 : decide (0 < N) = true := decide_eq_true k1
        have dk2 : decide (0 < M) = false := decide_eq_false (by omega)
        go_quiet (fail)
        go_wp2
        go_meet
        exact ⟨rfl, _, rfl⟩
      · have dk1 : decide (0 < N) = false := decide_eq_false (by omega)
        go_quiet (fail)
        go_wp2
        go_meet
        exact ⟨rfl, _, rfl⟩
    case rest =>
      clear kt2 cT
      obtain ⟨rfl, k, rfl⟩ := hcut
      rcases kf with ⟨k1, HN⟩ | ⟨k1, k2, k3, HN⟩ | ⟨k1, k2, k3⟩
      · have HN' := hid HN
        clear HN
        go_wp2
        go_ret2
        exact ⟨by rw [HN'.out]; rfl, KT k⟩
      · have HN' := hid HN
        clear HN
        go_wp2
        go_ret2
        exact ⟨by rw [HN'.out]; rfl, KT k⟩
      · rcases k2 with k2 | ⟨k2, k4⟩
        · rcases k3 with ⟨k5, HN⟩ | ⟨k5, HN⟩
          · have HN' := hid HN
            clear HN
            go_wp2
            go_ret2
            exact ⟨by rw [HN'.out]; simp [qrV, qrE]; omega, KT k⟩
          · have HN' := hid HN
            clear HN
            go_wp2
            go_ret2
            exact ⟨by rw [HN'.out]; simp [qrV, qrE]; omega, KT k⟩
        · have dk : decide (0 < B2) = false := decide_eq_false (by omega)
          have k6 : S2 = 70368744177664 := by simpa using k2
          subst k6
          clear k2
          rcases k3 with ⟨k5, HN⟩ | ⟨k5, HN⟩
          · exfalso; omega
          · have HN' := hid HN
            clear HN
            go_wp2
            go_ret2
            exact ⟨by rw [HN'.out]; rfl, KT k⟩

end Go.Proofs.YtldckefnelgdgaaDoor
