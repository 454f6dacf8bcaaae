/- The reference's layer 1: floor by bits, part, Share, by contracts. -/
import Derived.Test.YtldckefnelgdgaaFixShare
namespace Go.Proofs.Ytldckefnelgdgaa
open Go.RowKit
set_option linter.unusedSimpArgs false
set_option linter.unusedVariables false

theorem and_bit (p i : Nat) (hp : p < 9223372036854775808) (hi : i ≤ 46) : bits .and .i64 (p : Int) ((2 ^ i : Nat) : Int) = if p / 2 ^ i % 2 = 1 then ((2 ^ i : Nat) : Int) else 0 := by
  have h2 : (2 : Nat) ^ i ≤ 2 ^ 46 := Nat.pow_le_pow_right (by omega) hi
  have h3 : (2 : Nat) ^ 46 = 70368744177664 := by decide
  have e63 : (2 : Nat) ^ 63 = 9223372036854775808 := by decide
  have e63' : (2 : Int) ^ 63 = 9223372036854775808 := by decide
  have hw : ∀ n : Int, 0 ≤ n → n < 2 ^ 63 → IntKind.i64.wrap n = n := fun n h0 h1 => by
    rw [e63'] at h1
    exact IntWalk.i64_in n (by omega)
  have hp' : p < 2 ^ 63 := by rw [e63]; exact hp
  have hi' : 2 ^ i < 2 ^ 63 := by rw [e63]; omega
  have h := (bits_nat .i64 63 (by decide) hw p (2 ^ i) hp' hi').1
  have ht : p.testBit i = decide (p / 2 ^ i % 2 = 1) := Nat.testBit_eq_decide_div_mod_eq
  have e : p &&& 2 ^ i = if p / 2 ^ i % 2 = 1 then 2 ^ i else 0 := by
    apply Nat.eq_of_testBit_eq
    intro j
    rw [Nat.testBit_and, Nat.testBit_two_pow]
    by_cases hj : i = j
    · subst hj
      rw [ht]
      split <;> simp_all
    · rw [decide_eq_false hj, Bool.and_false]
      split
      · rw [Nat.testBit_two_pow, decide_eq_false hj]
      · simp
  rw [h, e]
  split <;> rfl

/-- One round. -/
theorem fl_round {a d uu q r b : Nat} (h : q * d + r = a * uu) (hb : b ≤ 1) :
    (2 * q + b * (a / d) + (2 * r + b * (a % d)) / d) * d + (2 * r + b * (a % d)) % d = a * (2 * uu + b) := by
  have h1 := Nat.div_add_mod (2 * r + b * (a % d)) d
  have h2 := Nat.div_add_mod a d
  rw [Nat.add_mul, Nat.add_assoc, Nat.mul_comm _ d, Nat.mul_comm ((2 * r + b * (a % d)) / d) d, h1]
  have e : a * (2 * uu + b) = 2 * (a * uu) + b * a := by rw [Nat.mul_add, Nat.mul_left_comm, Nat.mul_comm a b]
  rw [e, ← h, Nat.mul_add d, Nat.mul_comm d (2 * q), Nat.mul_assoc, Nat.mul_left_comm d b]
  have e2 : b * a = b * (d * (a / d)) + b * (a % d) := by rw [← Nat.mul_add, h2]
  rw [e2]
  omega

/-- What has been found of the quotient when j bits are left. -/
def FlRel (a p d : Nat) (vq vr vb : Value) : Prop := ∃ (j q r : Nat) (iq ir ib : Int), j ≤ 47 ∧ vq = .int .i64 iq ∧ vr = .int .i64 ir ∧ vb = .int .i64 ib ∧ Hid (iq = q) ∧ Hid (ir = r) ∧ Hid (ib = if j = 0 then 0 else ((2 ^ (j - 1) : Nat) : Int)) ∧ Hid (q * d + r = a * (p / 2 ^ j) ∧ r < d) ∧ 0 ≤ iq ∧ iq ≤ 70368744177664 ∧ 0 ≤ ir ∧ ir < 70368744177664

def RFlPost (a p d : Nat) (w : World) (e : Ending) (w' : World) : Prop := e = .returned (.tuple #[.int .i64 ((a * p / d : Nat) : Int), .int .i64 ((a * p % d : Nat) : Int)]) ∧ w' = w

set_option maxHeartbeats 3200000 in
theorem rfloor_any (a p d : Nat) (w : World) (ha : a ≤ 70368744177664) (hp : p ≤ d) (hd : 1 ≤ d) (hd2 : d ≤ 70368744177664) :
    Calls Try.prog 37 #[.int .i64 (a : Int), .int .i64 (p : Int), .int .i64 (d : Int)] w fun e w' => RFlPost a p d w e w' := by
  obtain ⟨ia, hia⟩ : ∃ x : Int, x = (a : Int) := ⟨_, rfl⟩
  obtain ⟨ip, hip⟩ : ∃ x : Int, x = (p : Int) := ⟨_, rfl⟩
  obtain ⟨id', hid'⟩ : ∃ x : Int, x = (d : Int) := ⟨_, rfl⟩
  rw [← hia, ← hip, ← hid']
  have a0 : 0 ≤ ia := by omega
  have a1 : ia ≤ 70368744177664 := by omega
  have d0 : 1 ≤ id' := by omega
  have d1 : id' ≤ 70368744177664 := by omega
  have Ha := hid hia
  have Hp := hid hip
  have Hd := hid hid'
  have Hpd := hid hp
  have hz : ¬ id' = 0 := by omega
  clear hia hip hid' hp ha hd hd2
  obtain ⟨A, hA⟩ : ∃ x : Int, x = ((a / d : Nat) : Int) := ⟨_, rfl⟩
  obtain ⟨M, hM⟩ : ∃ x : Int, x = ((a % d : Nat) : Int) := ⟨_, rfl⟩
  have pA : ia / id' = A := by rw [Ha.out, Hd.out, hA, Int.natCast_ediv]
  have pM : ia % id' = M := by rw [Ha.out, Hd.out, hM, Int.natCast_emod]
  have A0 : 0 ≤ A := by rw [hA]; exact Int.natCast_nonneg _
  have A1 : A ≤ 70368744177664 := by have h := Int.ofNat_le.2 (Nat.div_le_self a d); have := Ha.out; rw [← hA] at h; omega
  have M0 : 0 ≤ M := by rw [hM]; exact Int.natCast_nonneg _
  have M1 : M < 70368744177664 := by have h := Int.ofNat_lt.2 (Nat.mod_lt a (show d > 0 by have := Hd.out; omega)); have := Hd.out; rw [← hM] at h; omega
  have HA := hid hA
  have HM := hid hM
  clear hA hM
  go_enter Try.func37, Try.ntmps37
  go_wp2_with fail
  go_loop [8, 9, 10] (fun vq vr vb => FlRel a p d vq vr vb) (fun _ _ vb => (intOf vb).toNat)
  case atStart =>
    refine ⟨47, 0, 0, 0, 0, 70368744177664, by omega, rfl, rfl, rfl, hid rfl, hid rfl, hid (by decide), hid ⟨?_, by have := Hd.out; omega⟩, by omega, by omega, by omega, by omega⟩
    have e : (2 : Nat) ^ 47 = 140737488355328 := by decide
    have : p / 2 ^ 47 = 0 := by rw [e]; have := Hpd.out; have := Hd.out; omega
    rw [this]
    simp
  case round =>
    obtain ⟨j, q, r, iq, ir, ib, hj, rfl, rfl, rfl, Lq, Lr, Lb, HI, q0, q1, r0, r1⟩ := hrel
    cases j with
    | zero =>
      obtain rfl : ib = 0 := by have := Lb.out; simpa using this
      have hI := HI.out.1
      rw [Nat.pow_zero, Nat.div_one] at hI
      have hrd : r < d := HI.out.2
      have hq : a * p / d = q := by
        rw [← hI, Nat.mul_comm, Nat.mul_add_div (by omega), Nat.div_eq_of_lt hrd, Nat.add_zero]
      have hm : a * p % d = r := by
        rw [← hI, Nat.mul_comm, Nat.mul_add_mod, Nat.mod_eq_of_lt hrd]
      have HQ := hid hq
      have HMm := hid hm
      clear hI hq hm hrd
      go_wp2
      go_ret2
      show RFlPost a p d w (.returned (.tuple #[.int .i64 iq, .int .i64 ir])) w
      exact ⟨by rw [HQ.out, HMm.out, Lq.out, Lr.out], rfl⟩
    | succ i =>
      have hb := Lb.out
      rw [if_neg (by omega), Nat.add_sub_cancel] at hb
      have h2 : 0 < 2 ^ i := Nat.pow_pos (by omega)
      have hb0 : 0 < ib := by rw [hb]; omega
      obtain ⟨ib2, hib2⟩ : ∃ x : Int, x = if i = 0 then 0 else ((2 ^ (i - 1) : Nat) : Int) := ⟨_, rfl⟩
      have hhalf : ib / 2 = ib2 := by
        rw [hb, hib2]
        by_cases h0 : i = 0
        · subst h0; simp
        · rw [if_neg h0]
          obtain ⟨k, rfl⟩ : ∃ k, i = k + 1 := ⟨i - 1, by omega⟩
          rw [Nat.pow_succ, Nat.add_sub_cancel]
          omega
      have hbm : ib ≤ 70368744177664 := by
        have h46 : (2 : Nat) ^ i ≤ 2 ^ 46 := Nat.pow_le_pow_right (by omega) (by omega)
        have e : (2 : Nat) ^ 46 = 70368744177664 := by decide
        omega
      have p5 : wrap64 (ib.tdiv 2) = ib2 := by
        rw [Int.tdiv_eq_ediv_of_nonneg (by omega), hhalf]
        unfold wrap64
        omega
      have hlt : ib2 < ib := by omega
      have hib0 : 0 ≤ ib2 := by omega
      have hp2 : p / 2 ^ i = 2 * (p / 2 ^ (i + 1)) + p / 2 ^ i % 2 := by
        rw [Nat.pow_succ, ← Nat.div_div_eq_div_mul]
        omega
      have hpb := and_bit p i (by have := Hpd.out; have := Hd.out; omega) (by omega)
      rw [← Hp.out, ← hb] at hpb
      have HB2 := hid hib2
      have hnew : ∀ b : Nat, b = p / 2 ^ i % 2 → (2 * q + b * (a / d) + (2 * r + b * (a % d)) / d) * d + (2 * r + b * (a % d)) % d = a * (p / 2 ^ i) := fun b hb => by
        rw [fl_round HI.out.1 (by omega), hp2, hb]
      have hqa : ∀ x y : Nat, x * d + y = a * (p / 2 ^ i) → x ≤ a := fun x y h => by
        have h1 : a * (p / 2 ^ i) ≤ a * d := Nat.mul_le_mul_left _ (Nat.le_trans (Nat.div_le_self _ _) Hpd.out)
        exact Nat.le_of_mul_le_mul_right (show x * d ≤ a * d by omega) (by have := Hd.out; omega)
      have HNew := hid hnew
      have HQa := hid hqa
      by_cases hbit : p / 2 ^ i % 2 = 1
      · rw [if_pos hbit] at hpb
        obtain ⟨X, hX⟩ : ∃ x : Int, x = (((2 * r + a % d) / d : Nat) : Int) := ⟨_, rfl⟩
        obtain ⟨Y, hY⟩ : ∃ x : Int, x = (((2 * r + a % d) % d : Nat) : Int) := ⟨_, rfl⟩
        have e : 2 * ir + M = ((2 * r + a % d : Nat) : Int) := by rw [Lr.out, HM.out]; omega
        have pX : (2 * ir + M) / id' = X := by rw [e, Hd.out, hX, Int.natCast_ediv]
        have pY : (2 * ir + M) % id' = Y := by rw [e, Hd.out, hY, Int.natCast_emod]
        have hN := hnew 1 hbit.symm
        rw [Nat.one_mul, Nat.one_mul] at hN
        have hQ := hqa _ _ hN
        have X0 : 0 ≤ X := by rw [hX]; exact Int.natCast_nonneg _
        obtain ⟨N, hN'⟩ : ∃ N, N = 2 * q + a / d + (2 * r + a % d) / d := ⟨_, rfl⟩
        have eN : 2 * iq + A + X = (N : Int) := by
          rw [Lq.out, HA.out, hX, hN']
          simp only [Int.natCast_add, Int.natCast_mul]
          rfl
        rw [← hN'] at hN hQ
        have hYl : Y < 70368744177664 ∧ 0 ≤ Y := by
          have h := Int.ofNat_lt.2 (Nat.mod_lt (2 * r + a % d) (show d > 0 by have := Hd.out; omega))
          rw [← hY] at h
          have := Hd.out
          exact ⟨by omega, by rw [hY]; exact Int.natCast_nonneg _⟩
        have hNl : (N : Int) ≤ 70368744177664 := by have := Ha.out; omega
        have hXl : X ≤ 70368744177664 := by omega
        have HR : FlRel a p d (.int .i64 (2 * iq + A + X)) (.int .i64 Y) (.int .i64 ib2) := ⟨i, _, _, _, _, _, by omega, rfl, rfl, rfl, hid eN, hid hY, HB2, hid ⟨hN, Nat.mod_lt _ (by have := Hd.out; omega)⟩, by omega, by omega, hYl.2, hYl.1⟩
        have HRel := hid HR
        have HL := hid hlt
        have HpY := hid pY
        have Hhalf := hid hhalf
        clear hX hY e hN hQ hYl HR hnew hqa hp2 hb hib2 hhalf h2 hbit HI hlt eN hN' hNl
        go_wp2
        go_round
        case rel => (try rw [HpY.out]); (try rw [Hhalf.out]); exact HRel.out
        case measure => simp [intOf]; have := HL.out; have := Hhalf.out; omega
      · rw [if_neg hbit] at hpb
        obtain ⟨X, hX⟩ : ∃ x : Int, x = (((2 * r) / d : Nat) : Int) := ⟨_, rfl⟩
        obtain ⟨Y, hY⟩ : ∃ x : Int, x = (((2 * r) % d : Nat) : Int) := ⟨_, rfl⟩
        have e : 2 * ir = ((2 * r : Nat) : Int) := by rw [Lr.out]; omega
        have pX : (2 * ir) / id' = X := by rw [e, Hd.out, hX, Int.natCast_ediv]
        have pY : (2 * ir) % id' = Y := by rw [e, Hd.out, hY, Int.natCast_emod]
        have hN := hnew 0 (by omega)
        rw [Nat.zero_mul, Nat.zero_mul, Nat.add_zero, Nat.add_zero] at hN
        have hQ := hqa _ _ hN
        have X0 : 0 ≤ X := by rw [hX]; exact Int.natCast_nonneg _
        obtain ⟨N, hN'⟩ : ∃ N, N = 2 * q + (2 * r) / d := ⟨_, rfl⟩
        have eN : 2 * iq + X = (N : Int) := by
          rw [Lq.out, hX, hN']
          simp only [Int.natCast_add, Int.natCast_mul]
          rfl
        rw [← hN'] at hN hQ
        have hYl : Y < 70368744177664 ∧ 0 ≤ Y := by
          have h := Int.ofNat_lt.2 (Nat.mod_lt (2 * r) (show d > 0 by have := Hd.out; omega))
          rw [← hY] at h
          have := Hd.out
          exact ⟨by omega, by rw [hY]; exact Int.natCast_nonneg _⟩
        have hNl : (N : Int) ≤ 70368744177664 := by have := Ha.out; omega
        have hXl : X ≤ 70368744177664 := by omega
        have HR : FlRel a p d (.int .i64 (2 * iq + X)) (.int .i64 Y) (.int .i64 ib2) := ⟨i, _, _, _, _, _, by omega, rfl, rfl, rfl, hid eN, hid hY, HB2, hid ⟨hN, Nat.mod_lt _ (by have := Hd.out; omega)⟩, by omega, by omega, hYl.2, hYl.1⟩
        have HRel := hid HR
        have HL := hid hlt
        have HpY := hid pY
        have Hhalf := hid hhalf
        clear hX hY e hN hQ hYl HR hnew hqa hp2 hb hib2 hhalf h2 hbit HI hlt eN hN' hNl
        go_wp2
        go_round
        case rel => (try rw [HpY.out]); (try rw [Hhalf.out]); exact HRel.out
        case measure => simp [intOf]; have := HL.out; have := Hhalf.out; omega

theorem rlength_any (n : Int) (w : World) : Calls Try.prog 22 #[.int .i64 n] w fun e w' => e = .returned (.bool (lenB n)) ∧ w' = w := by
  by_cases h1 : -70368744177664 ≤ n
  · by_cases h2 : n ≤ 70368744177664
    · have E : Hid (lenB n = true) := hid (decide_eq_true ⟨h1, h2⟩)
      go_enter Try.func22, Try.ntmps22
      go_wp2
      go_ret
      exact ⟨by rw [E.out]; rfl, rfl⟩
    · have E : Hid (lenB n = false) := hid (decide_eq_false (fun h => h2 h.2))
      go_enter Try.func22, Try.ntmps22
      go_wp2
      go_ret
      exact ⟨by rw [E.out]; rfl, rfl⟩
  · have E : Hid (lenB n = false) := hid (decide_eq_false (fun h => h1 h.1))
    go_enter Try.func22, Try.ntmps22
    go_wp2
    go_ret
    exact ⟨by rw [E.out]; rfl, rfl⟩
theorem rlength_yes {n : Int} (w : World) (h : lenB n = true) : Calls Try.prog 22 #[.int .i64 n] w fun e w' => e = .returned (.bool true) ∧ w' = w := by rw [← h]; exact rlength_any n w
theorem rlength_no {n : Int} (w : World) (h : lenB n = false) : Calls Try.prog 22 #[.int .i64 n] w fun e w' => e = .returned (.bool false) ∧ w' = w := by rw [← h]; exact rlength_any n w

/-- The reference's floor, its results named. -/
theorem rfloor_at (a p d : Nat) (ha : a ≤ 70368744177664) (hp : p ≤ d) (hd : 1 ≤ d) (hd2 : d ≤ 70368744177664) : ∃ Q R : Int, (∀ w : World, Calls Try.prog 37 #[.int .i64 (a : Int), .int .i64 (p : Int), .int .i64 (d : Int)] w fun e w' => e = .returned (.tuple #[.int .i64 Q, .int .i64 R]) ∧ w' = w) ∧ Q = ((a * p / d : Nat) : Int) ∧ R = ((a * p % d : Nat) : Int) :=
  ⟨_, _, fun w => rfloor_any a p d w ha hp hd hd2, rfl, rfl⟩

set_option maxHeartbeats 1600000 in
theorem part_any (a : Int) (p d : Nat) (w : World) (ha : a.natAbs ≤ 70368744177664) (hp : p ≤ d) (hd : 1 ≤ d) (hd2 : d ≤ 70368744177664) :
    Calls Try.prog 23 #[.int .i64 a, .int .i64 (p : Int), .int .i64 (d : Int)] w fun e w' => e = .returned (.int .i64 (floorX a p d)) ∧ w' = w := by
  obtain ⟨Q, R, CF, hQ, hR⟩ := rfloor_at a.natAbs p d ha hp hd hd2
  obtain ⟨b1, b2⟩ := floor_bound (x := a.natAbs) hp hd
  obtain ⟨qn, hqn⟩ : ∃ x, x = a.natAbs * p / d := ⟨_, rfl⟩
  obtain ⟨rn, hrn⟩ : ∃ x, x = a.natAbs * p % d := ⟨_, rfl⟩
  have hF : floorX a p d = if 0 ≤ a then (qn : Int) else -((qn + (if 0 < rn then 1 else 0) : Nat) : Int) := by unfold floorX; rw [hqn, hrn]
  rw [← hqn] at hQ b1 b2
  rw [← hrn] at hR b2
  obtain ⟨ip, hip⟩ : ∃ x : Int, x = (p : Int) := ⟨_, rfl⟩
  obtain ⟨id', hid'⟩ : ∃ x : Int, x = (d : Int) := ⟨_, rfl⟩
  rw [← hip, ← hid'] at CF ⊢
  have hQ0 : 0 ≤ Q := by omega
  have hQ1 : Q ≤ 70368744177664 := by omega
  have ab0 : -70368744177664 ≤ a := by omega
  have ab1 : a ≤ 70368744177664 := by omega
  have HF := hid hF
  have HQ := hid hQ
  have HR := hid hR
  clear hQ hR b1 b2 hF hip hid' hqn hrn hp hd hd2
  by_cases h0 : 0 ≤ a
  · rw [show ((a.natAbs : Nat) : Int) = a by omega] at CF
    have HC := hid CF
    clear CF ha
    go_enter Try.func23, Try.ntmps23
    go_wp2_with fail
    refine (HC.out _).mono ?_
    rintro e w' ⟨rfl, rfl⟩
    go_wp2
    go_ret
    exact ⟨by rw [HF.out, if_pos h0, ← HQ.out]; rfl, rfl⟩
  · rw [show ((a.natAbs : Nat) : Int) = -a by omega] at CF
    have h0' : a < 0 := by omega
    have HC := hid CF
    clear CF ha
    by_cases hr : 0 < R
    · have HE : Hid (floorX a p d = -(Q + 1)) := hid (by have := HQ.out; have := HR.out; rw [HF.out, if_neg h0, if_pos (by omega)]; omega)
      go_enter Try.func23, Try.ntmps23
      go_wp2_with fail
      refine (HC.out _).mono ?_
      rintro e w' ⟨rfl, rfl⟩
      go_wp2
      go_ret
      exact ⟨by rw [HE.out]; rfl, rfl⟩
    · have HE : Hid (floorX a p d = -Q) := hid (by have := HQ.out; have := HR.out; rw [HF.out, if_neg h0, if_neg (by omega)]; omega)
      go_enter Try.func23, Try.ntmps23
      go_wp2_with fail
      refine (HC.out _).mono ?_
      rintro e w' ⟨rfl, rfl⟩
      go_wp2
      go_ret
      exact ⟨by rw [HE.out]; rfl, rfl⟩

set_option maxHeartbeats 1600000 in
theorem rshare_any (a b u l : Int) (w : World) : Calls Try.prog 10 #[.int .i64 a, .int .i64 b, .int .i64 u, .int .i64 l] w fun e w' => e = .returned (.int .i64 (shareX a b u l)) ∧ w' = w := by
  by_cases hok : shareOk a b u l
  · obtain ⟨ha, h1, h2, h3, h4, h5⟩ := hok
    have hok : shareOk a b u l := ⟨ha, h1, h2, h3, h4, h5⟩
    have hl := lenB_yes ha
    have hX : shareX a b u l = floorX a u.toNat l.toNat - floorX a b.toNat l.toNat := by unfold shareX; rw [if_pos hok]
    have CU := fun w => part_any a u.toNat l.toNat w (by omega) (by omega) (by omega) (by omega)
    have CB := fun w => part_any a b.toNat l.toNat w (by omega) (by omega) (by omega) (by omega)
    have ru := floor_range (a := a) (p := u.toNat) (d := l.toNat) (by omega) (by omega) (by omega)
    have rb := floor_range (a := a) (p := b.toNat) (d := l.toNat) (by omega) (by omega) (by omega)
    rw [show ((u.toNat : Nat) : Int) = u by omega, show ((l.toNat : Nat) : Int) = l by omega] at CU
    rw [show ((b.toNat : Nat) : Int) = b by omega, show ((l.toNat : Nat) : Int) = l by omega] at CB
    generalize floorX a u.toNat l.toNat = fu at *
    generalize floorX a b.toNat l.toNat = fb at *
    obtain ⟨ru0, ru1⟩ := ru
    obtain ⟨rb0, rb1⟩ := rb
    have HU := hid CU
    have HB := hid CB
    have HX := hid hX
    have Ha := hid ha
    clear CU CB hX hok ha hl
    go_enter Try.func10, Try.ntmps10
    go_wp2_with fail
    refine (rlength_yes _ Ha.out).mono ?_
    rintro e w1 ⟨rfl, rfl⟩
    go_wp2_with fail
    refine (HU.out _).mono ?_
    rintro e w2 ⟨rfl, rfl⟩
    go_wp2_with fail
    refine (HB.out _).mono ?_
    rintro e w3 ⟨rfl, rfl⟩
    go_wp2
    go_ret
    exact ⟨by rw [HX.out]; rfl, rfl⟩
  · have HX : Hid (shareX a b u l = 0) := hid (shareX_no hok)
    cases ha : lenB a with
    | false =>
      have Ha := hid ha
      clear ha hok
      go_enter Try.func10, Try.ntmps10
      go_wp2_with fail
      refine (rlength_no _ Ha.out).mono ?_
      rintro e w1 ⟨rfl, rfl⟩
      go_wp2
      go_ret
      exact ⟨by rw [HX.out]; rfl, rfl⟩
    | true =>
      have key : b < 0 ∨ (0 ≤ b ∧ u < b) ∨ (0 ≤ b ∧ b ≤ u ∧ l < u) ∨ (0 ≤ b ∧ b ≤ u ∧ u ≤ l ∧ l < 1) ∨ (0 ≤ b ∧ b ≤ u ∧ u ≤ l ∧ 1 ≤ l ∧ 70368744177664 < l) := by
        apply Classical.byContradiction
        intro h
        exact hok ⟨ha, by omega, by omega, by omega, by omega, by omega⟩
      have Ha := hid ha
      clear ha hok
      rcases key with h | ⟨g1, h⟩ | ⟨g1, g2, h⟩ | ⟨g1, g2, g3, h⟩ | ⟨g1, g2, g3, g4, h⟩
      all_goals
        go_enter Try.func10, Try.ntmps10
        go_wp2_with fail
        refine (rlength_yes _ Ha.out).mono ?_
        rintro e w1 ⟨rfl, rfl⟩
        go_wp2
        go_ret
        exact ⟨by rw [HX.out]; rfl, rfl⟩

end Go.Proofs.Ytldckefnelgdgaa
