/- The reference's Scale, by a contract. -/
import Derived.Test.YtldckefnelgdgaaRefTold
namespace Go.Proofs.Ytldckefnelgdgaa
open Go.RowKit
set_option linter.unusedSimpArgs false
set_option linter.unusedVariables false

theorem scaleN_half {X d : Nat} (hd : 1 ≤ d) : scaleN X d = (2 * X + d) / (2 * d) := by
  unfold scaleN
  have h1 := Nat.div_add_mod X d
  have h2 : X % d < d := Nat.mod_lt _ (by omega)
  generalize X / d = q at *
  generalize X % d = r at *
  have e : 2 * X + d = q * (2 * d) + (2 * r + d) := by
    rw [← h1, Nat.mul_add, Nat.mul_left_comm q 2 d, Nat.mul_comm q d]; omega
  rw [e, Nat.mul_comm q, Nat.mul_add_div (by omega)]
  split
  · rw [Nat.div_eq_of_lt_le (k := 1) (by omega) (by omega)]
  · rw [Nat.div_eq_of_lt (by omega)]; omega

/-- The reference's road: the whole part times y, and the rest's share. -/
theorem scaleN_parts {x y d : Nat} (hd : 1 ≤ d) : scaleN (x * y) d = x / d * y + (2 * (x % d) * y + d) / (2 * d) := by
  rw [scaleN_half hd]
  have h1 := Nat.div_add_mod x d
  have e : 2 * (x * y) + d = 2 * d * (x / d * y) + (2 * (x % d) * y + d) := by
    have h3 : x * y = d * (x / d) * y + x % d * y := by rw [← Nat.add_mul, h1]
    rw [h3, Nat.mul_add, Nat.mul_assoc 2 (x % d), Nat.mul_assoc d (x / d), Nat.mul_assoc 2 d]
    omega
  rw [e, Nat.mul_add_div (by omega)]

theorem scale_over {a num den : Int} (hok : scaleOk a num den) (hy : 0 < num.natAbs) (h : 140737488355328 / num.natAbs < a.natAbs / den.toNat) : scaleX a num den = none := by
  unfold scaleX
  rw [if_pos hok]
  apply lim_no
  unfold scaleV
  rw [scaleN_parts (by have := hok.2.1; omega)]
  rw [Nat.div_lt_iff_lt_mul hy] at h
  generalize a.natAbs / den.toNat * num.natAbs = u at *
  generalize (2 * (a.natAbs % den.toNat) * num.natAbs + den.toNat) / (2 * den.toNat) = v at *
  split <;> omega

theorem scale_fine {a num den : Int} (hok : scaleOk a num den) (s : Int) (n : Nat) (hs : (s = -1 ∧ (decide (a < 0) != decide (num < 0)) = true) ∨ (s = 1 ∧ (decide (a < 0) != decide (num < 0)) = false)) (hn : n = a.natAbs / den.toNat * num.natAbs + (2 * (a.natAbs % den.toNat) * num.natAbs + den.toNat) / (2 * den.toNat)) :
    lim (s * (n : Int)) = scaleX a num den := by
  unfold scaleX
  rw [if_pos hok]
  unfold scaleV
  rw [scaleN_parts (by have := hok.2.1; omega), ← hn]
  rcases hs with ⟨rfl, e⟩ | ⟨rfl, e⟩
  · rw [if_pos e]; congr 1; omega
  · rw [if_neg (by rw [e]; simp)]; congr 1; omega

/-- The numbers that the road goes through. -/
theorem scale_nums {x y d : Nat} (hd : 1 ≤ d) (hd2 : d ≤ 1048576) (hx : x ≤ 70368744177664) (hy : y ≤ 1048576) (h : 0 < y → x / d ≤ 140737488355328 / y) :
    x / d * y ≤ 140737488355328 ∧ 2 * (x % d) * y ≤ 2199023255552 ∧ (2 * (x % d) * y + d) / (2 * d) ≤ 2199023255552 ∧ x / d ≤ 70368744177664 ∧ x % d ≤ 1048576 := by
  have h1 : x % d < d := Nat.mod_lt _ (by omega)
  have h2 : 2 * (x % d) * y ≤ 2097152 * 1048576 := Nat.mul_le_mul (by omega) hy
  have h3 : (2 * (x % d) * y + d) / (2 * d) ≤ (2 * (x % d) * y + d) / 2 := Nat.div_le_div_left (by omega) (by omega)
  have h4 : x / d ≤ x := Nat.div_le_self _ _
  have h5 : x / d * y ≤ 140737488355328 := by
    rcases Nat.eq_zero_or_pos y with rfl | hp
    · omega
    · have := h hp
      rw [Nat.le_div_iff_mul_le hp] at this
      exact this
  omega

set_option maxHeartbeats 3200000 in
theorem rscale_yes (q : Nat) (bad : Bool) (a num den : Int) (w : World) (hq : IsB w q bad) (hok : scaleOk a num den) : Calls Try.prog 31 #[.pointer (some ⟨q, 0, none⟩), .int .i64 a, .int .i64 num, .int .i64 den] w fun e w' => RToldPost q bad (scaleX a num den) w e w' := by
  obtain ⟨ha, d0, d1, n0, n1⟩ := hok
  have hok : scaleOk a num den := ⟨ha, d0, d1, n0, n1⟩
  obtain ⟨a0, a1⟩ := lenB_yes ha
  obtain ⟨x, hx⟩ : ∃ x, x = a.natAbs := ⟨_, rfl⟩
  obtain ⟨y, hy⟩ : ∃ y, y = num.natAbs := ⟨_, rfl⟩
  obtain ⟨d, hd⟩ : ∃ d, d = den.toNat := ⟨_, rfl⟩
  have hO := scale_over hok
  have hF := fun s n => scale_fine hok s n
  rw [← hx, ← hy, ← hd] at hO hF
  have hN := scale_nums (x := x) (y := y) (d := d) (by omega) (by omega) (by omega) (by omega)
  have hWb : x / d ≤ x := Nat.div_le_self x d
  have hRb : x % d < d := Nat.mod_lt x (show d > 0 by omega)
  have hWc : ((x : Int) / (d : Int)) = ((x / d : Nat) : Int) := rfl
  have hRc : ((x : Int) % (d : Int)) = ((x % d : Nat) : Int) := rfl
  obtain ⟨WN, hWN⟩ : ∃ WN, WN = x / d := ⟨_, rfl⟩
  obtain ⟨RN, hRN⟩ : ∃ RN, RN = x % d := ⟨_, rfl⟩
  obtain ⟨TN, hTN⟩ : ∃ TN, TN = 140737488355328 / y := ⟨_, rfl⟩
  have hTc : ((140737488355328 : Int) / (y : Int)) = ((140737488355328 / y : Nat) : Int) := rfl
  simp only [← hWN, ← hRN, ← hTN] at hO hF hN hWb hRb hWc hRc hTc
  obtain ⟨X, hX⟩ : ∃ X : Int, X = (x : Int) := ⟨_, rfl⟩
  obtain ⟨Y, hY⟩ : ∃ Y : Int, Y = (y : Int) := ⟨_, rfl⟩
  have hden : den = (d : Int) := by omega
  obtain ⟨W, hW⟩ : ∃ W : Int, W = (WN : Int) := ⟨_, rfl⟩
  obtain ⟨R, hR⟩ : ∃ R : Int, R = (RN : Int) := ⟨_, rfl⟩
  obtain ⟨T, hT⟩ : ∃ T : Int, T = (TN : Int) := ⟨_, rfl⟩
  rw [← hX, ← hden, ← hW] at hWc
  rw [← hX, ← hden, ← hR] at hRc
  rw [← hY, ← hT] at hTc
  have x0 : 0 ≤ X := by omega
  have x1 : X ≤ 70368744177664 := by omega
  have y0 : 0 ≤ Y := by omega
  have y1 : Y ≤ 1048576 := by omega
  have w0 : 0 ≤ W := by clear hWc hRc hTc; omega
  have w1 : W ≤ 70368744177664 := by clear hWc hRc hTc; omega
  have r0 : 0 ≤ R := by clear hWc hRc hTc; omega
  have r1 : R ≤ 1048576 := by clear hWc hRc hTc; omega
  have t0 : 0 ≤ T := by clear hWc hRc hTc; omega
  have sa : (a < 0 ∧ -a = X) ∨ (0 ≤ a ∧ a = X) := by omega
  have sn : (num < 0 ∧ -num = Y ∧ 0 < Y) ∨ (0 ≤ num ∧ num = Y) := by omega
  have Ha := hid ha
  by_cases hbig : 0 < y ∧ TN < WN
  · obtain ⟨b0, b1⟩ := hbig
    have HC := hid (rtold_none q bad 0 w hq (hO b0 b1))
    have hTW : T < W := by clear hWc hRc hTc; omega
    have yp : 0 < Y := by omega
    clear hO hF hN hX hY hW hR hx hy hd hden hok b0 b1 hTN hT hq ha hWN hRN hWb hRb
    rcases sa with ⟨s0, s1⟩ | ⟨s0, rfl⟩ <;> rcases sn with ⟨s2, s3, s4⟩ | ⟨s2, rfl⟩
    all_goals
      go_enter Try.func31, Try.ntmps31
      go_wp2_with fail
      refine (rlength_yes _ Ha.out).mono ?_
      rintro e w1 ⟨rfl, rfl⟩
      go_wp2_with fail
      refine HC.out.mono ?_
      rintro e w1 ⟨rfl, G, K⟩
      go_wp2
      go_ret
      exact ⟨rfl, G, K⟩
  · have hle : 0 < y → WN ≤ TN := fun h => by
      apply Classical.byContradiction
      intro hc
      exact hbig ⟨h, by omega⟩
    obtain ⟨m0, m1, m2, m3, m4⟩ := hN hle
    have hVc : (((2 * RN * y : Nat) : Int) + (d : Int)) / (2 * (d : Int)) = (((2 * RN * y + d) / (2 * d) : Nat) : Int) := rfl
    obtain ⟨UN, hUN⟩ : ∃ UN, UN = WN * y := ⟨_, rfl⟩
    obtain ⟨ZN, hZN⟩ : ∃ ZN, ZN = 2 * RN * y := ⟨_, rfl⟩
    simp only [← hUN, ← hZN] at m0 m1 m2 hF hVc
    obtain ⟨VN, hVN⟩ : ∃ VN, VN = (ZN + d) / (2 * d) := ⟨_, rfl⟩
    simp only [← hVN] at m2 hF hVc
    obtain ⟨U, hU⟩ : ∃ U : Int, U = (UN : Int) := ⟨_, rfl⟩
    obtain ⟨Z, hZ⟩ : ∃ Z : Int, Z = (ZN : Int) := ⟨_, rfl⟩
    obtain ⟨V, hV⟩ : ∃ V : Int, V = (VN : Int) := ⟨_, rfl⟩
    have eU0 : W * Y = U := by rw [hW, hY, hU, hUN, Int.natCast_mul]
    have eZ0 : 2 * R * Y = Z := by rw [hR, hY, hZ, hZN, Int.natCast_mul, Int.natCast_mul]; rfl
    rw [← hden, ← hZ, ← hV] at hVc
    clear hWN hRN hTN hUN hZN hVN
    have u0 : 0 ≤ U := by clear hWc hRc hTc hVc eU0 eZ0; omega
    have u1 : U ≤ 140737488355328 := by clear hWc hRc hTc hVc eU0 eZ0; omega
    have z0 : 0 ≤ Z := by clear hWc hRc hTc hVc eU0 eZ0; omega
    have z1 : Z ≤ 2199023255552 := by clear hWc hRc hTc hVc eU0 eZ0; omega
    have v0 : 0 ≤ V := by clear hWc hRc hTc hVc eU0 eZ0; omega
    have v1 : V ≤ 2199023255552 := by clear hWc hRc hTc hVc eU0 eZ0; omega
    have eU : wrap64 (W * Y) = U := by rw [eU0]; unfold wrap64; clear hWc hRc hTc hVc eU0 eZ0; omega
    have eZ : wrap64 (2 * R * Y) = Z := by rw [eZ0]; unfold wrap64; clear hWc hRc hTc hVc eU0 eZ0; omega
    obtain ⟨N, hN1⟩ : ∃ N, N = U + V := ⟨_, rfl⟩
    have eN : U + V = N := hN1.symm
    have hNN : N = ((UN + VN : Nat) : Int) := by clear hWc hRc hTc hVc eU0 eZ0; omega
    have n0' : 0 ≤ N := by clear hWc hRc hTc hVc eU0 eZ0; omega
    have n1' : N ≤ 200000000000000 := by clear hWc hRc hTc hVc eU0 eZ0; omega
    have key : W ≤ T ∨ Y = 0 := by clear hWc hRc hTc hVc eU0 eZ0; omega
    have key2 : (W ≤ T ∧ 0 < Y) ∨ Y ≤ 0 := by clear hWc hRc hTc hVc eU0 eZ0; omega
    have hFp : (decide (a < 0) != decide (num < 0)) = false → lim N = scaleX a num den := fun h => by
      have := hF 1 _ (.inr ⟨rfl, h⟩) rfl
      rw [Int.one_mul, ← hNN] at this
      exact this
    have hFn : (decide (a < 0) != decide (num < 0)) = true → lim (-N) = scaleX a num den := fun h => by
      have := hF (-1) _ (.inl ⟨rfl, h⟩) rfl
      rw [Int.neg_mul, Int.one_mul, ← hNN] at this
      exact this
    have HP := hid hFp
    have HM := hid hFn
    have HQ := hid hq
    clear hFp hFn hO hF hN hX hY hW hR hx hy hd hden hok hT hq ha hWb hRb hle m0 m1 m2 m3 m4 hU hZ hV eU0 eZ0 hN1 hNN hbig key
    rcases sa with ⟨s0, s1⟩ | ⟨s0, rfl⟩ <;> rcases sn with ⟨s2, s3, s4⟩ | ⟨s2, rfl⟩ <;> rcases key2 with ⟨k1, k2⟩ | k1
    all_goals try (exfalso; omega)
    all_goals
      first
        | have HC := hid (rtold_lim q bad N w HQ.out (HP.out (by first | (rw [decide_eq_true s0, decide_eq_true s2]; rfl) | (rw [decide_eq_false (Int.not_lt.2 s0), decide_eq_false (Int.not_lt.2 s2)]; rfl))))
        | have HC := hid (rtold_lim q bad (-N) w HQ.out (HM.out (by first | (rw [decide_eq_true s0, decide_eq_false (Int.not_lt.2 s2)]; rfl) | (rw [decide_eq_false (Int.not_lt.2 s0), decide_eq_true s2]; rfl))))
      clear HP HM
      go_enter Try.func31, Try.ntmps31
      go_wp2_with fail
      refine (rlength_yes _ Ha.out).mono ?_
      rintro e w1 ⟨rfl, rfl⟩
      go_wp2_with fail
      refine HC.out.mono ?_
      rintro e w1 ⟨rfl, G, K⟩
      go_wp2
      go_ret
      exact ⟨rfl, G, K⟩

theorem rscale_any (q : Nat) (bad : Bool) (a num den : Int) (w : World) (hq : IsB w q bad) : Calls Try.prog 31 #[.pointer (some ⟨q, 0, none⟩), .int .i64 a, .int .i64 num, .int .i64 den] w fun e w' => RToldPost q bad (scaleX a num den) w e w' := by
  by_cases hok : scaleOk a num den
  · exact rscale_yes q bad a num den w hq hok
  · have HC := hid (rtold_none q bad 0 w hq (scaleX_no hok))
    cases ha : lenB a with
    | false =>
      have Ha := hid ha
      clear ha hok hq
      go_enter Try.func31, Try.ntmps31
      go_wp2_with fail
      refine (rlength_no _ Ha.out).mono ?_
      rintro e w1 ⟨rfl, rfl⟩
      go_wp2_with fail
      refine HC.out.mono ?_
      rintro e w1 ⟨rfl, G, K⟩
      go_wp2
      go_ret
      exact ⟨rfl, G, K⟩
    | true =>
      have key : den < 1 ∨ (1 ≤ den ∧ 1048576 < den) ∨ (1 ≤ den ∧ den ≤ 1048576 ∧ num < -1048576) ∨ (1 ≤ den ∧ den ≤ 1048576 ∧ -1048576 ≤ num ∧ 1048576 < num) := by
        apply Classical.byContradiction
        intro h
        exact hok ⟨ha, by omega, by omega, by omega, by omega⟩
      have Ha := hid ha
      clear ha hok hq
      rcases key with h | ⟨g1, h⟩ | ⟨g1, g2, h⟩ | ⟨g1, g2, g3, h⟩
      all_goals
        go_enter Try.func31, Try.ntmps31
        go_wp2_with fail
        refine (rlength_yes _ Ha.out).mono ?_
        rintro e w1 ⟨rfl, rfl⟩
        go_wp2_with fail
        refine HC.out.mono ?_
        rintro e w1 ⟨rfl, G, K⟩
        go_wp2
        go_ret
        exact ⟨rfl, G, K⟩

end Go.Proofs.Ytldckefnelgdgaa
