/- Layer 1: a ratio, to the nearest. -/
import Derived.Test.YtldckefnelgdgaaFixEx
namespace Go.Proofs.Ytldckefnelgdgaa
open Go.RowKit
set_option linter.unusedSimpArgs false
set_option linter.unusedVariables false

/-- x by d, to the nearest, halves up. -/
def scaleN (x d : Nat) : Nat := if d ≤ 2 * (x % d) then x / d + 1 else x / d
def scaleOk (a num den : Int) : Prop := lenB a = true ∧ 1 ≤ den ∧ den ≤ 1048576 ∧ -1048576 ≤ num ∧ num ≤ 1048576
instance (a num den : Int) : Decidable (scaleOk a num den) := by unfold scaleOk; infer_instance
def scaleV (a num den : Int) : Int := if (decide (a < 0) != decide (num < 0)) = true then -(scaleN (a.natAbs * num.natAbs) den.toNat : Int) else (scaleN (a.natAbs * num.natAbs) den.toNat : Int)
def scaleX (a num den : Int) : Option Int := if scaleOk a num den then lim (scaleV a num den) else none

theorem scaleX_no {a num den : Int} (h : ¬ scaleOk a num den) : scaleX a num den = none := by unfold scaleX; rw [if_neg h]
theorem scaleX_yes {a num den : Int} (h : scaleOk a num den) : exOf (decide (a < 0) != decide (num < 0)) (scaleN (a.natAbs * num.natAbs) den.toNat) true = scaleX a num den := by
  unfold scaleX scaleV
  rw [if_pos h, exOf_signed]
theorem scaleX_over {a num den : Int} (hd : 1 ≤ den) (h : den.toNat ≤ a.natAbs * num.natAbs / 18446744073709551616) : scaleX a num den = none := by
  unfold scaleX
  split
  · have h1 : 18446744073709551616 ≤ a.natAbs * num.natAbs / den.toNat := by
      rw [Nat.le_div_iff_mul_le (by omega)]
      rw [Nat.le_div_iff_mul_le (by omega)] at h
      rw [Nat.mul_comm]
      exact h
    have h2 : 18446744073709551616 ≤ scaleN (a.natAbs * num.natAbs) den.toNat := by unfold scaleN; split <;> omega
    unfold scaleV
    apply lim_no
    split <;> omega
  · rfl

/-- A division of two words by one, its results named. -/
theorem div64_at (hi lo y : Nat) (hy : hi < y) (hlo : lo < 18446744073709551616) (hy2 : y < 18446744073709551616) : ∃ Q R : Int, (∀ w : World, Calls Try.prog 36 #[.int .u64 hi, .int .u64 lo, .int .u64 y] w fun e w' => e = .returned (.tuple #[.int .u64 Q, .int .u64 R]) ∧ ∃ n, w' = w.drewN n) ∧ Q = (((hi * 18446744073709551616 + lo) / y : Nat) : Int) ∧ R = (((hi * 18446744073709551616 + lo) % y : Nat) : Int) :=
  ⟨_, _, fun w => (div64_any hi lo y w hy hlo hy2).mono fun _ _ h => h, rfl, rfl⟩

set_option maxHeartbeats 3200000 in
theorem nearest_any (a num den : Int) (w : World) :
    Calls Try.prog 25 #[.agg #[.int .i64 a, .int .i64 num, .int .i64 den]] w fun e w' => ExOf (scaleX a num den) w e w' := by
  by_cases hok : scaleOk a num den
  · obtain ⟨ha, hd1, hd2, hn1, hn2⟩ := hok
    have hok : scaleOk a num den := ⟨ha, hd1, hd2, hn1, hn2⟩
    have hl := lenB_yes ha
    obtain ⟨H, L, CM, hH, hL⟩ := mul64_at a.natAbs num.natAbs (by omega) (by omega)
    have CA := fun w => bare_any a w (by omega) (by omega)
    have CN := fun w => bare_any num w (by omega) (by omega)
    have eD : IntKind.u64.wrap den = den := by rw [IntKind.wrap_u64]; omega
    generalize (a.natAbs : Int) = x at *
    generalize (num.natAbs : Int) = y at *
    have HM := hid CM
    have HA := hid CA
    have HN := hid CN
    have HH := hid hH
    have HL := hid hL
    have Hl := hid hl
    have Hok := hid hok
    have Ha := hid ha
    clear hl CM CA CN hH hL hok ha
    go_enter Try.func25, Try.ntmps25
    go_wp2_with fail
    refine (length_yes _ Ha.out).mono ?_
    rintro e w1 ⟨rfl, rfl⟩
    go_upto_region 3 with (fail)
    go_quiet ((first | (go_at_call 35; first | (with_reducible exact Calls.quiet_of_same (HA.out _)) | (with_reducible exact Calls.quiet_of_same (HN.out _))) | (go_at_call 34; exact Calls.quiet_of_same (HM.out _))))
    go_upto_region 5 with (fail)
    have B1 := blk_drewN (blk_new w (.cells #[.int .i64 a, .int .i64 num, .int .i64 den] 49)) nq
    have K1 : Keep [] w ((w.alloc (.cells #[.int .i64 a, .int .i64 num, .int .i64 den] 49)).drewN nq) := ((Keep.refl [] w).alloc _).drewN _
    generalize (w.alloc (.cells #[.int .i64 a, .int .i64 num, .int .i64 den] 49)).drewN nq = W1 at *
    by_cases hH : den ≤ H
    · have HX : Hid (scaleX a num den = none) := hid (scaleX_over hd1 (by have := HH.out; omega))
      go_wp2
      go_ret3
      exact ⟨false, 0, false, rfl, by omega, by rw [HX.out]; exact exOf_no _ _, K1⟩
    · obtain ⟨dn, hdn⟩ : ∃ dn : Nat, dn = den.toNat := ⟨_, rfl⟩
      have hdn' : den = (dn : Int) := by omega
      obtain ⟨Q, R, CD, hQ, hR⟩ := div64_at (a.natAbs * num.natAbs / 18446744073709551616) (a.natAbs * num.natAbs % 18446744073709551616) dn (by have := HH.out; omega) (Nat.mod_lt _ (by omega)) (by omega)
      rw [← HH.out, ← HL.out, ← hdn'] at CD
      have eX : a.natAbs * num.natAbs / 18446744073709551616 * 18446744073709551616 + a.natAbs * num.natAbs % 18446744073709551616 = a.natAbs * num.natAbs := by rw [Nat.mul_comm]; exact Nat.div_add_mod _ _
      rw [eX] at hQ hR
      have hQl : a.natAbs * num.natAbs / dn < 18446744073709551616 := by
        rw [Nat.div_lt_iff_lt_mul (by omega)]
        have h1 := HH.out
        have h2 : a.natAbs * num.natAbs / 18446744073709551616 < dn := by omega
        rw [Nat.div_lt_iff_lt_mul (by omega)] at h2
        rw [Nat.mul_comm 18446744073709551616]
        exact h2
      have hRl : a.natAbs * num.natAbs % dn < dn := Nat.mod_lt _ (by omega)
      have hs : scaleN (a.natAbs * num.natAbs) den.toNat = if dn ≤ 2 * (a.natAbs * num.natAbs % dn) then a.natAbs * num.natAbs / dn + 1 else a.natAbs * num.natAbs / dn := by rw [← hdn]; rfl
      obtain ⟨qn, hqn⟩ : ∃ x, x = a.natAbs * num.natAbs / dn := ⟨_, rfl⟩
      obtain ⟨rn, hrn⟩ : ∃ x, x = a.natAbs * num.natAbs % dn := ⟨_, rfl⟩
      rw [← hqn] at hQ hQl hs
      rw [← hrn] at hR hRl hs
      obtain ⟨R2, hR2⟩ : ∃ x : Int, x = 2 * R := ⟨_, rfl⟩
      have p2 : IntKind.u64.wrap (2 * R) = R2 := by rw [IntKind.wrap_u64, hR2]; omega
      have HS := hid hs
      have HCD := hid CD
      have HQ := hid hQ
      have HR := hid hR
      have HQl := hid hQl
      have HRl := hid hRl
      have HR2 := hid hR2
      have HD := hid hdn'
      clear hs CD hQ hR hQl hRl hR2 eX hdn hdn' eD hqn hrn
      go_wp2_with fail
      refine (HCD.out _).mono ?_
      rintro e w2 ⟨rfl, nd, rfl⟩
      have B2 := blk_drewN B1 nd
      have K2 := K1.drewN nd
      clear B1 K1
      generalize W1.drewN nd = W2 at *
      have c0 := blk_cell B2 0
      have c1 := blk_cell B2 1
      simp only [List.getElem?_toArray, List.getElem?_cons_zero, List.getElem?_cons_succ] at c0 c1
      by_cases hc : den ≤ R2
      · by_cases hov : qn + 1 < 18446744073709551616
        · obtain ⟨Q1, hQ1⟩ : ∃ x : Int, x = Q + 1 := ⟨_, rfl⟩
          have p3 : IntKind.u64.wrap (Q + 1) = Q1 := by have := HQ.out; rw [IntKind.wrap_u64, hQ1]; omega
          have hpos : 0 < Q1 := by have := HQ.out; omega
          have HX : Hid (exOf (decide (a < 0) != decide (num < 0)) (qn + 1) true = scaleX a num den) := hid (by rw [← scaleX_yes Hok.out, HS.out, if_pos (by have := HR.out; have := HR2.out; have := HD.out; omega)])
          have HN1 : Hid (Q1 = ((qn + 1 : Nat) : Int)) := hid (by have := HQ.out; omega)
          have Hov := hid hov
          clear hQ1 hov
          go_wp2
          go_ret3
          exact ⟨(decide (a < 0) != decide (num < 0)), _, true, by rw [HN1.out]; rfl, Hov.out, HX.out, K2⟩
        · have p3 : IntKind.u64.wrap (Q + 1) = 0 := by have := HQ.out; have := HQl.out; rw [IntKind.wrap_u64]; omega
          have hR0 : (R == 0) = false := by have := HR.out; have := HR2.out; have := HD.out; simp; omega
          have hc' : ¬ R2 < den := by omega
          have hdf : decide (R2 < den) = false := decide_eq_false hc'
          have HX : Hid (scaleX a num den = none) := hid (by
            rw [← scaleX_yes Hok.out, HS.out, if_pos (by have := HR.out; have := HR2.out; have := HD.out; omega)]
            unfold exOf
            rw [if_neg (by omega)])
          clear hov
          have Hdf := hid hdf
          go_wp2
          go_ret3
          exact ⟨(decide (a < 0) != decide (num < 0)), 0, false, by first | rfl | (rw [Hdf.out]; rfl), by omega, by rw [HX.out]; exact exOf_no _ _, K2⟩
      · have hc' : R2 < den := by omega
        have HX : Hid (exOf (decide (a < 0) != decide (num < 0)) (qn) true = scaleX a num den) := hid (by rw [← scaleX_yes Hok.out, HS.out, if_neg (by have := HR.out; have := HR2.out; have := HD.out; omega)])
        clear hc
        by_cases hq : 0 < Q
        · go_wp2
          go_ret3
          exact ⟨(decide (a < 0) != decide (num < 0)), _, true, by rw [HQ.out]; rfl, HQl.out, HX.out, K2⟩
        · by_cases hr : R = 0
          · have hr' : (R == 0) = true := by simpa using hr
            have Hr := hid hr
            clear hr
            go_wp2
            go_ret3
            exact ⟨(decide (a < 0) != decide (num < 0)), _, true, by rw [HQ.out]; rfl, HQl.out, HX.out, K2⟩
          · have hr' : (R == 0) = false := by simpa using hr
            clear hr
            go_wp2
            go_ret3
            exact ⟨(decide (a < 0) != decide (num < 0)), _, true, by rw [HQ.out]; rfl, HQl.out, HX.out, K2⟩
  · have HX : Hid (scaleX a num den = none) := hid (scaleX_no hok)
    cases ha : lenB a with
    | false =>
      have Ha := hid ha
      clear ha hok
      go_enter Try.func25, Try.ntmps25
      go_wp2_with fail
      refine (length_no _ Ha.out).mono ?_
      rintro e w1 ⟨rfl, rfl⟩
      go_wp2
      go_ret3
      exact ⟨false, 0, false, rfl, by omega, by rw [HX.out]; exact exOf_no _ _, (Keep.refl [] w).alloc _⟩
    | true =>
      have hn : den < 1 ∨ 1048576 < den ∨ num < -1048576 ∨ 1048576 < num := by
        apply Classical.byContradiction
        intro h
        exact hok ⟨ha, by omega, by omega, by omega, by omega⟩
      have Ha := hid ha
      clear ha hok
      have key : den < 1 ∨ (1 ≤ den ∧ 1048576 < den) ∨ (1 ≤ den ∧ den ≤ 1048576 ∧ num < -1048576) ∨ (1 ≤ den ∧ den ≤ 1048576 ∧ -1048576 ≤ num ∧ 1048576 < num) := by omega
      clear hn
      rcases key with h | ⟨g1, h⟩ | ⟨g1, g2, h⟩ | ⟨g1, g2, g3, h⟩
      all_goals
        go_enter Try.func25, Try.ntmps25
        go_wp2_with fail
        refine (length_yes _ Ha.out).mono ?_
        rintro e w1 ⟨rfl, rfl⟩
        go_wp2
        go_ret3
        exact ⟨false, 0, false, rfl, by omega, by rw [HX.out]; exact exOf_no _ _, (Keep.refl [] w).alloc _⟩

end Go.Proofs.Ytldckefnelgdgaa
