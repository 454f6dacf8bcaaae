/- Layer 1: the three exact answers: a sum, a product, a ratio. -/
import Derived.Test.YtldckefnelgdgaaFix
namespace Go.Proofs.Ytldckefnelgdgaa
open Go.RowKit
set_option linter.unusedSimpArgs false
set_option linter.unusedVariables false

/-- An answer (below 0?, without its sign, is there one?) as a length. -/
def exOf (b : Bool) (n : Nat) (ok : Bool) : Option Int := if ok = true ∧ n ≤ 70368744177664 then some (if b = true then -(n : Int) else n) else none
/-- A number, if it is a length. -/
def lim (v : Int) : Option Int := if lenB v = true then some v else none

def ExOf (x : Option Int) (w : World) (e : Ending) (w' : World) : Prop :=
  ∃ (b : Bool) (n : Nat) (ok : Bool), e = .returned (.tuple #[.bool b, .int .u64 (n : Int), .bool ok]) ∧ n < 18446744073709551616 ∧ exOf b n ok = x ∧ Keep [] w w'

theorem lim_yes {v : Int} (h : -70368744177664 ≤ v ∧ v ≤ 70368744177664) : lim v = some v := by
  unfold lim lenB
  rw [if_pos (decide_eq_true h)]
theorem lim_no {v : Int} (h : v < -70368744177664 ∨ 70368744177664 < v) : lim v = none := by
  unfold lim lenB
  rw [if_neg]
  rw [decide_eq_true_eq]
  omega
theorem exOf_lim (v : Int) : exOf (decide (v < 0)) v.natAbs true = lim v := by
  by_cases h2 : v.natAbs ≤ 70368744177664
  · rw [lim_yes (by omega)]
    unfold exOf
    rw [if_pos ⟨rfl, h2⟩]
    congr 1
    by_cases h : v < 0
    · rw [if_pos (decide_eq_true h)]; omega
    · rw [if_neg (by rw [decide_eq_true_eq]; exact h)]; omega
  · rw [lim_no (by omega)]
    unfold exOf
    rw [if_neg (fun x => h2 x.2)]
theorem exOf_no (b : Bool) (n : Nat) : exOf b n false = none := by simp [exOf]

def sumX (a b : Int) : Option Int := if lenB a = true ∧ lenB b = true then lim (a + b) else none

theorem wrap64_range (x : Int) : -9223372036854775808 ≤ wrap64 x ∧ wrap64 x ≤ 9223372036854775807 := by
  unfold wrap64; omega

theorem length_yes {n : Int} (w : World) (h : lenB n = true) : Calls Try.prog 20 #[.int .i64 n] w fun e w' => e = .returned (.bool true) ∧ w' = w := by rw [← h]; exact length_any n w
theorem length_no {n : Int} (w : World) (h : lenB n = false) : Calls Try.prog 20 #[.int .i64 n] w fun e w' => e = .returned (.bool false) ∧ w' = w := by rw [← h]; exact length_any n w

set_option maxHeartbeats 1600000 in
theorem sum_any (a b : Int) (w : World) : Calls Try.prog 32 #[.agg #[.int .i64 a, .int .i64 b]] w fun e w' => ExOf (sumX a b) w e w' := by
  have HR := hid (wrap64_range (a + b))
  cases ha : lenB a with
  | true =>
    cases hb : lenB b with
    | true =>
      have HX : Hid (sumX a b = lim (a + b)) := hid (by unfold sumX; rw [if_pos ⟨ha, hb⟩])
      obtain ⟨a0, a1⟩ := lenB_yes ha
      obtain ⟨b0, b1⟩ := lenB_yes hb
      have HA := hid ha
      have HB := hid hb
      clear ha hb
      go_enter Try.func32, Try.ntmps32
      go_upto_region 2 with (fail)
      go_quiet ((first | (go_at_call 35; exact Calls.quiet_of_same (bare_any _ _ (by omega) (by omega))) | (go_at_call 20; first | exact Calls.quiet_of_same (length_yes _ HA.out) | exact Calls.quiet_of_same (length_yes _ HB.out))))
      go_wp2
      go_ret3
      exact ⟨decide (a + b < 0), (a + b).natAbs, true, rfl, by omega, by rw [HX.out]; exact exOf_lim _, ((Keep.refl [] w).alloc _).drewN _⟩
    | false =>
      have HX : Hid (sumX a b = none) := hid (by unfold sumX; rw [if_neg (fun h => by rw [hb] at h; exact absurd h.2 (by simp))])
      have HA := hid ha
      have HB := hid hb
      clear ha hb
      go_enter Try.func32, Try.ntmps32
      go_upto_region 2 with (fail)
      generalize wrap64 (a + b) = s at *
      go_quiet ((first | (go_at_call 35; exact Calls.quiet_of_same (bare_any _ _ HR.out.1 HR.out.2)) | (go_at_call 20; first | exact Calls.quiet_of_same (length_yes _ HA.out) | exact Calls.quiet_of_same (length_no _ HB.out))))
      go_wp2
      go_ret3
      exact ⟨decide (s < 0), s.natAbs, false, rfl, by have := HR.out; omega, by rw [HX.out]; exact exOf_no _ _, ((Keep.refl [] w).alloc _).drewN _⟩
  | false =>
    have HX : Hid (sumX a b = none) := hid (by unfold sumX; rw [if_neg (fun h => by rw [ha] at h; exact absurd h.1 (by simp))])
    have HA := hid ha
    clear ha
    go_enter Try.func32, Try.ntmps32
    go_upto_region 2 with (fail)
    generalize wrap64 (a + b) = s at *
    go_quiet ((first | (go_at_call 35; exact Calls.quiet_of_same (bare_any _ _ HR.out.1 HR.out.2)) | (go_at_call 20; exact Calls.quiet_of_same (length_no _ HA.out))))
    go_wp2
    go_ret3
    exact ⟨decide (s < 0), s.natAbs, false, rfl, by have := HR.out; omega, by rw [HX.out]; exact exOf_no _ _, ((Keep.refl [] w).alloc _).drewN _⟩

/-- a times n. -/
def mulX (a n : Int) : Option Int := if lenB a = true then lim (a * n) else none

theorem signed_mul (a b : Int) : a * b = if (decide (a < 0) != decide (b < 0)) = true then -((a.natAbs * b.natAbs : Nat) : Int) else ((a.natAbs * b.natAbs : Nat) : Int) := by
  rcases Int.natAbs_eq a with ha | ha <;> rcases Int.natAbs_eq b with hb | hb
  all_goals
    generalize a.natAbs = x at *
    generalize b.natAbs = y at *
    subst ha hb
  · rw [if_neg]
    · simp
    · have h1 : ¬ (x : Int) < 0 := by omega
      have h2 : ¬ (y : Int) < 0 := by omega
      simp [h1, h2]
  · by_cases hy : y = 0
    · subst hy; simp
    · by_cases hx : x = 0
      · subst hx; simp
      · rw [if_pos]
        · rw [Int.natCast_mul, Int.mul_neg]
        · have h1 : ¬ (x : Int) < 0 := by omega
          have h2 : -(y : Int) < 0 := by omega
          rw [decide_eq_false h1, decide_eq_true h2]; rfl
  · by_cases hy : y = 0
    · subst hy; simp
    · by_cases hx : x = 0
      · subst hx; simp
      · rw [if_pos]
        · rw [Int.natCast_mul, Int.neg_mul]
        · have h1 : -(x : Int) < 0 := by omega
          have h2 : ¬ (y : Int) < 0 := by omega
          rw [decide_eq_true h1, decide_eq_false h2]; rfl
  · by_cases hy : y = 0
    · subst hy; simp
    · by_cases hx : x = 0
      · subst hx; simp
      · rw [if_neg]
        · rw [Int.natCast_mul, Int.neg_mul_neg]
        · have h1 : -(x : Int) < 0 := by omega
          have h2 : -(y : Int) < 0 := by omega
          rw [decide_eq_true h1, decide_eq_true h2]; simp

/-- A sign and a number without it. -/
theorem exOf_signed (s : Bool) (n : Nat) : exOf s n true = lim (if s = true then -(n : Int) else n) := by
  by_cases h2 : n ≤ 70368744177664
  · unfold exOf
    rw [if_pos ⟨rfl, h2⟩, lim_yes (by split <;> omega)]
  · unfold exOf
    rw [if_neg (fun x => h2 x.2), lim_no (by split <;> omega)]

theorem mulX_ok {a n : Int} (ha : lenB a = true) (h : a.natAbs * n.natAbs / 18446744073709551616 = 0) : exOf (decide (a < 0) != decide (n < 0)) (a.natAbs * n.natAbs % 18446744073709551616) true = mulX a n := by
  unfold mulX
  rw [if_pos ha, signed_mul, ← exOf_signed]
  congr 1
  omega
theorem mulX_over {a n : Int} (h : ¬ a.natAbs * n.natAbs / 18446744073709551616 = 0) : mulX a n = none := by
  unfold mulX
  split
  · rw [signed_mul]
    apply lim_no
    split <;> omega
  · rfl
theorem mulX_no {a n : Int} (ha : lenB a = false) : mulX a n = none := by
  unfold mulX
  rw [if_neg (by rw [ha]; simp)]

/-- A product of two words, its halves named. -/
theorem mul64_at (x y : Nat) (hx : x < 18446744073709551616) (hy : y < 18446744073709551616) : ∃ H L : Int, (∀ w : World, Calls Try.prog 34 #[.int .u64 (x : Int), .int .u64 (y : Int)] w fun e w' => e = .returned (.tuple #[.int .u64 H, .int .u64 L]) ∧ w' = w) ∧ H = ((x * y / 18446744073709551616 : Nat) : Int) ∧ L = ((x * y % 18446744073709551616 : Nat) : Int) :=
  ⟨_, _, fun w => Try.bits_Mul64 x y hx hy w, rfl, rfl⟩

set_option maxHeartbeats 1600000 in
theorem product_any (a n : Int) (w : World) (a0 : -9223372036854775808 ≤ a) (a1 : a ≤ 9223372036854775807) (n0 : -9223372036854775808 ≤ n) (n1 : n ≤ 9223372036854775807) :
    Calls Try.prog 33 #[.agg #[.int .i64 a, .int .i64 n]] w fun e w' => ExOf (mulX a n) w e w' := by
  obtain ⟨H, L, CM, hH, hL⟩ := mul64_at a.natAbs n.natAbs (by omega) (by omega)
  have CA := fun w => bare_any a w a0 a1
  have CN := fun w => bare_any n w n0 n1
  generalize (a.natAbs : Int) = x at *
  generalize (n.natAbs : Int) = y at *
  have HM := hid CM
  have HA := hid CA
  have HN := hid CN
  have HH := hid hH
  have HL := hid hL
  clear a0 a1 n0 n1 CM CA CN hH hL
  have hLn : ∃ l : Nat, L = (l : Int) ∧ l < 18446744073709551616 := ⟨_, HL.out, Nat.mod_lt _ (by omega)⟩
  obtain ⟨l, rfl, hl⟩ := hLn
  have Hl := hid hl
  clear hl
  cases ha : lenB a with
  | true =>
    have Ha := hid ha
    clear ha
    by_cases h0 : H = 0
    · have HX : Hid (exOf (decide (a < 0) != decide (n < 0)) l true = mulX a n) := hid (by
        have h1 := HH.out
        have h2 := HL.out
        rw [h0] at h1
        rw [Int.ofNat_inj.1 h2]
        exact mulX_ok Ha.out (by omega))
      subst h0
      go_enter Try.func33, Try.ntmps33
      go_upto_region 1 with (fail)
      go_quiet ((first | (go_at_call 35; first | (with_reducible exact Calls.quiet_of_same (HA.out _)) | (with_reducible exact Calls.quiet_of_same (HN.out _))) | (go_at_call 34; exact Calls.quiet_of_same (HM.out _))))
      go_upto_region 2 with (fail)
      have B1 := blk_drewN (blk_new w (.cells #[.int .i64 a, .int .i64 n] 52)) nq
      have K1 : Keep [] w ((w.alloc (.cells #[.int .i64 a, .int .i64 n] 52)).drewN nq) := ((Keep.refl [] w).alloc _).drewN _
      generalize (w.alloc (.cells #[.int .i64 a, .int .i64 n] 52)).drewN nq = W1 at *
      have c0 := blk_cell B1 0
      have c1 := blk_cell B1 1
      simp only [List.getElem?_toArray, List.getElem?_cons_zero, List.getElem?_cons_succ] at c0 c1
      go_quiet ((go_at_call 20; exact Calls.quiet_of_same (length_yes _ Ha.out)))
      go_wp2
      go_ret3
      exact ⟨_, l, true, rfl, Hl.out, HX.out, K1.drewN _⟩
    · have HX : Hid (mulX a n = none) := hid (mulX_over (by have h1 := HH.out; omega))
      have h0' : (H == 0) = false := by simpa using h0
      go_enter Try.func33, Try.ntmps33
      go_upto_region 1 with (fail)
      go_quiet ((first | (go_at_call 35; first | (with_reducible exact Calls.quiet_of_same (HA.out _)) | (with_reducible exact Calls.quiet_of_same (HN.out _))) | (go_at_call 34; exact Calls.quiet_of_same (HM.out _))))
      go_upto_region 2 with (fail)
      have B1 := blk_drewN (blk_new w (.cells #[.int .i64 a, .int .i64 n] 52)) nq
      have K1 : Keep [] w ((w.alloc (.cells #[.int .i64 a, .int .i64 n] 52)).drewN nq) := ((Keep.refl [] w).alloc _).drewN _
      generalize (w.alloc (.cells #[.int .i64 a, .int .i64 n] 52)).drewN nq = W1 at *
      have c0 := blk_cell B1 0
      have c1 := blk_cell B1 1
      simp only [List.getElem?_toArray, List.getElem?_cons_zero, List.getElem?_cons_succ] at c0 c1
      go_quiet ((go_at_call 20; exact Calls.quiet_of_same (length_yes _ Ha.out)))
      go_wp2
      go_ret3
      exact ⟨_, l, false, rfl, Hl.out, by rw [HX.out]; exact exOf_no _ _, K1.drewN _⟩
  | false =>
    have Ha := hid ha
    clear ha
    have HX : Hid (mulX a n = none) := hid (mulX_no Ha.out)
    go_enter Try.func33, Try.ntmps33
    go_upto_region 1 with (fail)
    go_quiet ((first | (go_at_call 35; first | (with_reducible exact Calls.quiet_of_same (HA.out _)) | (with_reducible exact Calls.quiet_of_same (HN.out _))) | (go_at_call 34; exact Calls.quiet_of_same (HM.out _))))
    go_upto_region 2 with (fail)
    have B1 := blk_drewN (blk_new w (.cells #[.int .i64 a, .int .i64 n] 52)) nq
    have K1 : Keep [] w ((w.alloc (.cells #[.int .i64 a, .int .i64 n] 52)).drewN nq) := ((Keep.refl [] w).alloc _).drewN _
    generalize (w.alloc (.cells #[.int .i64 a, .int .i64 n] 52)).drewN nq = W1 at *
    have c0 := blk_cell B1 0
    have c1 := blk_cell B1 1
    simp only [List.getElem?_toArray, List.getElem?_cons_zero, List.getElem?_cons_succ] at c0 c1
    go_quiet ((go_at_call 20; exact Calls.quiet_of_same (length_no _ Ha.out)))
    go_wp2
    go_ret3
    exact ⟨_, l, false, rfl, Hl.out, by rw [HX.out]; exact exOf_no _ _, K1.drewN _⟩

end Go.Proofs.Ytldckefnelgdgaa
