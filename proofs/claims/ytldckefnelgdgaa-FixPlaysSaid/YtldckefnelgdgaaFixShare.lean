/- Layer 1: floor and Share, by contracts. -/
import Derived.Test.YtldckefnelgdgaaFixTold
namespace Go.Proofs.Ytldckefnelgdgaa
open Go.RowKit
set_option linter.unusedSimpArgs false
set_option linter.unusedVariables false

/-- The greatest whole number not above a * p / d. -/
def floorX (a : Int) (p d : Nat) : Int := if 0 ≤ a then ((a.natAbs * p / d : Nat) : Int) else -((a.natAbs * p / d + (if 0 < a.natAbs * p % d then 1 else 0) : Nat) : Int)
def shareOk (a before upTo all : Int) : Prop := lenB a = true ∧ 0 ≤ before ∧ before ≤ upTo ∧ upTo ≤ all ∧ all ≤ 70368744177664 ∧ 1 ≤ all
instance (a before upTo all : Int) : Decidable (shareOk a before upTo all) := by unfold shareOk; infer_instance
def shareX (a before upTo all : Int) : Int := if shareOk a before upTo all then floorX a upTo.toNat all.toNat - floorX a before.toNat all.toNat else 0

theorem floor_bound {x p d : Nat} (hp : p ≤ d) (hd : 1 ≤ d) : x * p / d ≤ x ∧ (x * p % d = 0 ∨ x * p / d + 1 ≤ x) := by
  have h1 : x * p ≤ x * d := Nat.mul_le_mul_left _ hp
  have h2 : x * p / d ≤ x := Nat.div_le_of_le_mul (by rw [Nat.mul_comm d]; exact h1)
  refine ⟨h2, ?_⟩
  rcases Nat.eq_zero_or_pos (x * p % d) with h | h
  · exact .inl h
  · refine .inr ?_
    have h3 := Nat.div_add_mod (x * p) d
    apply Classical.byContradiction
    intro hc
    have h4 : x * p / d = x := by omega
    rw [h4, Nat.mul_comm d x] at h3
    omega

theorem floor_range {a : Int} {p d : Nat} (hp : p ≤ d) (hd : 1 ≤ d) (ha : a.natAbs ≤ 70368744177664) : -70368744177664 ≤ floorX a p d ∧ floorX a p d ≤ 70368744177664 := by
  obtain ⟨h1, h2⟩ := floor_bound (x := a.natAbs) hp hd
  unfold floorX
  generalize a.natAbs * p / d = q at *
  generalize a.natAbs * p % d = r at *
  split
  · omega
  · split <;> omega

set_option maxHeartbeats 1600000 in
theorem floor_any (a : Int) (p d : Nat) (w : World) (ha : a.natAbs ≤ 70368744177664) (hp : p ≤ d) (hd : 1 ≤ d) (hd2 : d ≤ 70368744177664) :
    Calls Try.prog 21 #[.int .i64 a, .int .i64 (p : Int), .int .i64 (d : Int)] w fun e w' => e = .returned (.int .i64 (floorX a p d)) ∧ ∃ n, w' = w.drewN n := by
  have ep : IntKind.u64.wrap (p : Int) = (p : Int) := by rw [IntKind.wrap_u64]; omega
  have ed : IntKind.u64.wrap (d : Int) = (d : Int) := by rw [IntKind.wrap_u64]; omega
  obtain ⟨H, L, CM, hH, hL⟩ := mul64_at a.natAbs p (by omega) (by omega)
  have hHd : a.natAbs * p / 18446744073709551616 < d := by
    rw [Nat.div_lt_iff_lt_mul (by omega)]
    have h1 : a.natAbs * p ≤ a.natAbs * d := Nat.mul_le_mul_left _ hp
    have h2 : a.natAbs * d ≤ 70368744177664 * d := Nat.mul_le_mul_right _ ha
    omega
  obtain ⟨Q, R, CD, hQ, hR⟩ := div64_at (a.natAbs * p / 18446744073709551616) (a.natAbs * p % 18446744073709551616) d hHd (Nat.mod_lt _ (by omega)) (by omega)
  have eX : a.natAbs * p / 18446744073709551616 * 18446744073709551616 + a.natAbs * p % 18446744073709551616 = a.natAbs * p := by rw [Nat.mul_comm]; exact Nat.div_add_mod _ _
  rw [eX] at hQ hR
  rw [← hH, ← hL] at CD
  obtain ⟨b1, b2⟩ := floor_bound (x := a.natAbs) hp hd
  obtain ⟨qn, hqn⟩ : ∃ x, x = a.natAbs * p / d := ⟨_, rfl⟩
  obtain ⟨rn, hrn⟩ : ∃ x, x = a.natAbs * p % d := ⟨_, rfl⟩
  have hF : floorX a p d = if 0 ≤ a then (qn : Int) else -((qn + (if 0 < rn then 1 else 0) : Nat) : Int) := by unfold floorX; rw [hqn, hrn]
  rw [← hqn] at hQ b1 b2
  rw [← hrn] at hR b2
  obtain ⟨ip, hip⟩ : ∃ x : Int, x = (p : Int) := ⟨_, rfl⟩
  obtain ⟨id, hid'⟩ : ∃ x : Int, x = (d : Int) := ⟨_, rfl⟩
  rw [← hip] at ep CM ⊢
  rw [← hid'] at ed CD ⊢
  have CA := fun w => bare_any a w (by omega) (by omega)
  obtain ⟨x, hx⟩ : ∃ x : Int, x = (a.natAbs : Int) := ⟨_, rfl⟩
  rw [← hx] at CM
  simp only [← hx] at CA
  have HM := hid CM
  have HD := hid CD
  have HA := hid CA
  have HQ := hid hQ
  have HR := hid hR
  have B1 := hid b1
  have B2 := hid b2
  have HF := hid hF
  have Hx := hid hx
  have hQ0 : 0 ≤ Q := by omega
  have hQ1 : Q ≤ 70368744177664 := by omega
  clear CM CD CA hQ hR b1 b2 hF hx hip hid' eX hHd hH hL hqn hrn ha hp hd hd2
  by_cases h0 : 0 ≤ a
  · have h0' : ¬ a < 0 := by omega
    go_enter Try.func21, Try.ntmps21
    go_wp2_with fail
    refine (HA.out _).mono ?_
    rintro e w' ⟨rfl, rfl⟩
    go_wp2_with fail
    refine (HM.out _).mono ?_
    rintro e w' ⟨rfl, rfl⟩
    go_wp2_with fail
    refine (HD.out _).mono ?_
    rintro e w2 ⟨rfl, nd, rfl⟩
    go_wp2
    go_ret
    exact ⟨by rw [HF.out, if_pos h0, ← HQ.out]; rfl, nd, rfl⟩
  · have h0' : a < 0 := by omega
    by_cases hr : 0 < R
    · obtain ⟨Q1, hq1⟩ : ∃ x : Int, x = Q + 1 := ⟨_, rfl⟩
      have p3 : IntKind.u64.wrap (Q + 1) = Q1 := by rw [IntKind.wrap_u64, hq1]; omega
      have hQ2 : 0 ≤ Q1 := by omega
      have hQ3 : Q1 ≤ 70368744177665 := by omega
      have HE : Hid (floorX a p d = -Q1) := hid (by have := HQ.out; have := HR.out; rw [HF.out, if_neg h0, if_pos (by omega)]; omega)
      clear hq1
      go_enter Try.func21, Try.ntmps21
      go_wp2_with fail
      refine (HA.out _).mono ?_
      rintro e w' ⟨rfl, rfl⟩
      go_wp2_with fail
      refine (HM.out _).mono ?_
      rintro e w' ⟨rfl, rfl⟩
      go_wp2_with fail
      refine (HD.out _).mono ?_
      rintro e w2 ⟨rfl, nd, rfl⟩
      go_wp2
      go_ret
      exact ⟨by rw [HE.out]; rfl, nd, rfl⟩
    · have HE : Hid (floorX a p d = -Q) := hid (by have := HQ.out; have := HR.out; rw [HF.out, if_neg h0, if_neg (by omega)]; omega)
      go_enter Try.func21, Try.ntmps21
      go_wp2_with fail
      refine (HA.out _).mono ?_
      rintro e w' ⟨rfl, rfl⟩
      go_wp2_with fail
      refine (HM.out _).mono ?_
      rintro e w' ⟨rfl, rfl⟩
      go_wp2_with fail
      refine (HD.out _).mono ?_
      rintro e w2 ⟨rfl, nd, rfl⟩
      go_wp2
      go_ret
      exact ⟨by rw [HE.out]; rfl, nd, rfl⟩

theorem shareX_no {a b u l : Int} (h : ¬ shareOk a b u l) : shareX a b u l = 0 := by unfold shareX; rw [if_neg h]

set_option maxHeartbeats 1600000 in
theorem share_any (a b u l : Int) (w : World) : Calls Try.prog 9 #[.int .i64 a, .int .i64 b, .int .i64 u, .int .i64 l] w fun e w' => e = .returned (.int .i64 (shareX a b u l)) ∧ ∃ n, w' = w.drewN n := by
  by_cases hok : shareOk a b u l
  · obtain ⟨ha, h1, h2, h3, h4, h5⟩ := hok
    have hok : shareOk a b u l := ⟨ha, h1, h2, h3, h4, h5⟩
    have hl := lenB_yes ha
    have hX : shareX a b u l = floorX a u.toNat l.toNat - floorX a b.toNat l.toNat := by unfold shareX; rw [if_pos hok]
    have CU := fun w => floor_any a u.toNat l.toNat w (by omega) (by omega) (by omega) (by omega)
    have CB := fun w => floor_any a b.toNat l.toNat w (by omega) (by omega) (by omega) (by omega)
    have ru := floor_range (a := a) (p := u.toNat) (d := l.toNat) (by omega) (by omega) (by omega)
    have rb := floor_range (a := a) (p := b.toNat) (d := l.toNat) (by omega) (by omega) (by omega)
    rw [show ((u.toNat : Nat) : Int) = u by omega, show ((l.toNat : Nat) : Int) = l by omega] at CU
    rw [show ((b.toNat : Nat) : Int) = b by omega, show ((l.toNat : Nat) : Int) = l by omega] at CB
    generalize floorX a u.toNat l.toNat = fu at *
    generalize floorX a b.toNat l.toNat = fb at *
    obtain ⟨ru0, ru1⟩ := ru
    obtain ⟨rb0, rb1⟩ := rb
    have HU := hid CU
    have HB := hid CB
    have HX := hid hX
    have Ha := hid ha
    clear CU CB hX hok ha hl
    go_enter Try.func9, Try.ntmps9
    go_wp2_with fail
    refine (length_yes _ Ha.out).mono ?_
    rintro e w1 ⟨rfl, rfl⟩
    go_wp2_with fail
    refine (HU.out _).mono ?_
    rintro e w2 ⟨rfl, n1, rfl⟩
    go_wp2_with fail
    refine (HB.out _).mono ?_
    rintro e w3 ⟨rfl, n2, rfl⟩
    go_wp2
    go_ret
    exact ⟨by rw [HX.out]; rfl, n1 + n2, by simp [World.drewN, Nat.add_assoc]⟩
  · have HX : Hid (shareX a b u l = 0) := hid (shareX_no hok)
    cases ha : lenB a with
    | false =>
      have Ha := hid ha
      clear ha hok
      go_enter Try.func9, Try.ntmps9
      go_wp2_with fail
      refine (length_no _ Ha.out).mono ?_
      rintro e w1 ⟨rfl, rfl⟩
      go_wp2
      go_ret
      exact ⟨by rw [HX.out]; rfl, 0, rfl⟩
    | true =>
      have key : b < 0 ∨ (0 ≤ b ∧ u < b) ∨ (0 ≤ b ∧ b ≤ u ∧ l < u) ∨ (0 ≤ b ∧ b ≤ u ∧ u ≤ l ∧ 70368744177664 < l) ∨ (0 ≤ b ∧ b ≤ u ∧ u ≤ l ∧ l ≤ 70368744177664 ∧ l < 1) := by
        apply Classical.byContradiction
        intro h
        exact hok ⟨ha, by omega, by omega, by omega, by omega, by omega⟩
      have Ha := hid ha
      clear ha hok
      rcases key with h | ⟨g1, h⟩ | ⟨g1, g2, h⟩ | ⟨g1, g2, g3, h⟩ | ⟨g1, g2, g3, g4, h⟩
      all_goals
        go_enter Try.func9, Try.ntmps9
        go_wp2_with fail
        refine (length_yes _ Ha.out).mono ?_
        rintro e w1 ⟨rfl, rfl⟩
        go_wp2
        go_ret
        exact ⟨by rw [HX.out]; rfl, 0, rfl⟩

end Go.Proofs.Ytldckefnelgdgaa
