/- FixNear's walk. -/
import Derived.Test.YtldckefnelgdgaaShown01
import Derived.Test.YtldckefnelgdgaaNearLaw
namespace Go.Proofs.Ytldckefnelgdgaa
open Go.RowKit
set_option linter.unusedSimpArgs false
set_option linter.unusedVariables false

theorem ansC_neg (x : Option Int) : ansC false (x.map (fun v => -v)) = -ansC false x := by cases x <;> simp [ansC]
theorem badC_neg (x : Option Int) : badC false (x.map (fun v => -v)) = badC false x := by cases x <;> rfl
theorem lim_range {v : Int} {n : Int} (h : lim v = some n) : n = v ∧ -70368744177664 ≤ n ∧ n ≤ 70368744177664 := by
  unfold lim at h
  split at h
  · rename_i hl
    have := lenB_yes hl
    obtain rfl := Option.some.inj h
    exact ⟨rfl, this⟩
  · cases h
theorem scaleX_range (a num den : Int) : -70368744177664 ≤ ansC false (scaleX a num den) ∧ ansC false (scaleX a num den) ≤ 70368744177664 := by
  unfold scaleX
  split
  · cases h : lim (scaleV a num den) with
    | none => simp [ansC]
    | some n =>
      have := lim_range h
      simp only [ansC]
      simp
      omega
  · simp [ansC]

theorem near_last {a num den n : Int} (hok : scaleOk a num den) (hb : badC false (scaleX a num den) = false) (hn : n = ansC false (scaleX a num den)) (ha0 : -1099511627776 ≤ a) (ha1 : a ≤ 1099511627776) :
    ∃ P S : Int, P = n * den ∧ S = a * num ∧ -2305843009213693952 ≤ P ∧ P ≤ 2305843009213693952 ∧ -2305843009213693952 ≤ S ∧ S ≤ 2305843009213693952 ∧ 2 * (P - S) ≤ den ∧ 2 * (S - P) ≤ den := by
  have hv : n = scaleV a num den := by
    unfold scaleX at hb hn
    rw [if_pos hok] at hb hn
    cases h : lim (scaleV a num den) with
    | none => rw [h] at hb; simp [badC] at hb
    | some v =>
      rw [h] at hn
      have := (lim_range h).1
      simp [ansC] at hn
      omega
  obtain ⟨s, p, x, hs, e1, e2, e3, h1, h2⟩ := scaleV_near (a := a) (num := num) (den := den) hok.2.1
  have hx : x ≤ 1099511627776 * 1048576 := by
    rw [e3]
    exact Nat.mul_le_mul (by omega) (by have := hok.2; omega)
  refine ⟨s * p, s * x, by rw [hv]; exact e1.symm, e2.symm, ?_⟩
  have hd := hok.2
  rcases hs with rfl | rfl
  · omega
  · omega

set_option maxHeartbeats 3200000 in
set_option maxRecDepth 100000 in
theorem walkNear (a num den : Int) (w : World) (a0 : -9223372036854775808 ≤ a) (a1 : a ≤ 9223372036854775807) (n0 : -9223372036854775808 ≤ num) (n1 : num ≤ 9223372036854775807) :
    Calls Try.prog 5 #[.int .i64 a, .int .i64 num, .int .i64 den] w fun e w' => e = .returned (.bool true) ∧ Below w.heap.size w w' := by
  clear a0 a1 n0 n1
  by_cases hok : scaleOk a num den
  · have Hok := hid hok
    have hl := lenB_yes hok.1
    obtain ⟨l0, l1⟩ := hl
    obtain ⟨_, d0, d1, m0, m1⟩ := hok
    go_enter Try.func5, Try.ntmps5
    go_wp2_with fail
    refine (shown01 _).mono ?_
    rintro e w1 ⟨rfl, K1⟩
    go_wp2_with fail
    refine (calc_new _).mono ?_
    rintro e w2 ⟨rfl, G1, K2⟩
    have z1 := K1.size
    have z2 : w1.heap.size < w2.heap.size := blk_lt G1
    generalize w1.heap.size = g1 at *
    go_wp2_with fail
    refine (calc_scale g1 false a num den _ G1).mono ?_
    rintro e w3 ⟨rfl, G1, K3⟩
    have z3 := K3.size
    go_wp2_with fail
    refine (calc_new _).mono ?_
    rintro e w4 ⟨rfl, G2, K4⟩
    have z4 : w3.heap.size < w4.heap.size := blk_lt G2
    generalize w3.heap.size = g2 at *
    have G1 := G1.keep K4 (by simp)
    go_wp2_with fail
    refine (calc_scale g2 false (-a) num den _ G2).mono ?_
    rintro e w5 ⟨rfl, G2, K5⟩
    have z5 := K5.size
    have G1 := G1.keep K5 (by simp; omega)
    rw [scaleX_neg_a Hok.out, ansC_neg]
    rw [scaleX_neg_a Hok.out, badC_neg] at G2
    go_wp2_with fail
    refine (calc_new _).mono ?_
    rintro e w6 ⟨rfl, G3, K6⟩
    have z6 : w5.heap.size < w6.heap.size := blk_lt G3
    generalize w5.heap.size = g3 at *
    have G1 := G1.keep K6 (by simp)
    have G2 := G2.keep K6 (by simp)
    go_wp2_with fail
    refine (calc_scale g3 false a (-num) den _ G3).mono ?_
    rintro e w7 ⟨rfl, G3, K7⟩
    have z7 := K7.size
    have G1 := G1.keep K7 (by simp; omega)
    have G2 := G2.keep K7 (by simp; omega)
    rw [scaleX_neg_num Hok.out, ansC_neg]
    rw [scaleX_neg_num Hok.out, badC_neg] at G3
    go_wp2_with fail
    refine (calc_new _).mono ?_
    rintro e w8 ⟨rfl, G4, K8⟩
    have z8 : w7.heap.size < w8.heap.size := blk_lt G4
    generalize w7.heap.size = g4 at *
    have G1 := G1.keep K8 (by simp)
    have G2 := G2.keep K8 (by simp)
    have G3 := G3.keep K8 (by simp)
    have KA : Keep [] w w8 := ((((((K1.trans K2).then K3 (by simp; omega)).trans K4).then K5 (by simp; omega)).trans K6).then K7 (by simp; omega)).trans K8
    have hr := scaleX_range a num den
    obtain ⟨n, hn⟩ : ∃ n, n = ansC false (scaleX a num den) := ⟨_, rfl⟩
    obtain ⟨b, hb⟩ : ∃ b, b = badC false (scaleX a num den) := ⟨_, rfl⟩
    rw [← hn] at hr ⊢
    rw [← hb] at G1 G2 G3
    obtain ⟨r0, r1⟩ := hr
    have Hn := hid hn
    have Hb := hid hb
    clear hn hb K1 K2 K3 K4 K5 K6 K7 K8
    cases b with
    | true =>
      go_wp2_with fail
      refine (calc_wrong g1 true _ G1).mono ?_
      rintro e w' ⟨rfl, rfl⟩
      go_wp2_with fail
      refine (calc_wrong g2 true _ G2).mono ?_
      rintro e w' ⟨rfl, rfl⟩
      go_wp2_with fail
      refine (calc_wrong g1 true _ G1).mono ?_
      rintro e w' ⟨rfl, rfl⟩
      go_wp2_with fail
      refine (calc_wrong g3 true _ G3).mono ?_
      rintro e w' ⟨rfl, rfl⟩
      go_wp2_with fail
      refine (calc_scale g4 false a den den _ G4).mono ?_
      rintro e w9 ⟨rfl, G4, K9⟩
      rw [scaleX_same Hok.out] at G4
      rw [scaleX_same Hok.out, show ansC false (some a) = a from rfl]
      have G4' : IsC w9 g4 false := G4
      have G1 := G1.keep K9 (by simp; omega)
      have KB : Keep [] w w9 := KA.then K9 (by simp; omega)
      clear G4 G2 G3 K9 KA
      go_wp2_with fail
      refine (calc_wrong g4 false _ G4').mono ?_
      rintro e w' ⟨rfl, rfl⟩
      go_wp2_with fail
      refine (calc_wrong g1 true _ G1).mono ?_
      rintro e w' ⟨rfl, rfl⟩
      go_wp2
      go_ret
      exact ⟨rfl, KB.below (Nat.le_refl _) (by simp)⟩
    | false =>
      go_wp2_with fail
      refine (calc_wrong g1 false _ G1).mono ?_
      rintro e w' ⟨rfl, rfl⟩
      go_wp2_with fail
      refine (calc_wrong g2 false _ G2).mono ?_
      rintro e w' ⟨rfl, rfl⟩
      go_wp2_with fail
      refine (calc_wrong g1 false _ G1).mono ?_
      rintro e w' ⟨rfl, rfl⟩
      go_wp2_with fail
      refine (calc_wrong g3 false _ G3).mono ?_
      rintro e w' ⟨rfl, rfl⟩
      go_wp2_with fail
      refine (calc_scale g4 false a den den _ G4).mono ?_
      rintro e w9 ⟨rfl, G4, K9⟩
      rw [scaleX_same Hok.out] at G4
      rw [scaleX_same Hok.out, show ansC false (some a) = a from rfl]
      have G4' : IsC w9 g4 false := G4
      have G1 := G1.keep K9 (by simp; omega)
      have KB : Keep [] w w9 := KA.then K9 (by simp; omega)
      clear G4 G2 G3 K9 KA
      go_wp2_with fail
      refine (calc_wrong g4 false _ G4').mono ?_
      rintro e w' ⟨rfl, rfl⟩
      go_wp2_with fail
      refine (calc_wrong g1 false _ G1).mono ?_
      rintro e w' ⟨rfl, rfl⟩
      by_cases h1 : a < -1099511627776
      · go_wp2
        go_ret
        exact ⟨rfl, KB.below (Nat.le_refl _) (by simp)⟩
      · by_cases h2 : 1099511627776 < a
        · go_wp2
          go_ret
          exact ⟨rfl, KB.below (Nat.le_refl _) (by simp)⟩
        · obtain ⟨P, S, hP, hS, q0, q1, q2, q3, q4, q5⟩ := near_last Hok.out Hb.out.symm Hn.out (by omega) (by omega)
          have p1 : wrap64 (n * den) = P := by rw [← hP]; unfold wrap64; omega
          have p2 : wrap64 (a * num) = S := by rw [← hS]; unfold wrap64; omega
          obtain ⟨D, hD⟩ : ∃ D, D = P - S := ⟨_, rfl⟩
          have p3 : P - S = D := hD.symm
          have q6 : 2 * D ≤ den := by omega
          have q7 : 2 * -D ≤ den := by omega
          have q8 : -1048576 ≤ D := by omega
          have q9 : D ≤ 1048576 := by omega
          clear hP hS hD
          by_cases h3 : D < 0
          · go_wp2
            go_ret
            exact ⟨rfl, KB.below (Nat.le_refl _) (by simp)⟩
          · go_wp2
            go_ret
            exact ⟨rfl, KB.below (Nat.le_refl _) (by simp)⟩
  · have key : a < -70368744177664 ∨ (-70368744177664 ≤ a ∧ 70368744177664 < a) ∨ (-70368744177664 ≤ a ∧ a ≤ 70368744177664 ∧ den < 1) ∨ (-70368744177664 ≤ a ∧ a ≤ 70368744177664 ∧ 1 ≤ den ∧ 1048576 < den) ∨ (-70368744177664 ≤ a ∧ a ≤ 70368744177664 ∧ 1 ≤ den ∧ den ≤ 1048576 ∧ num < -1048576) ∨ (-70368744177664 ≤ a ∧ a ≤ 70368744177664 ∧ 1 ≤ den ∧ den ≤ 1048576 ∧ -1048576 ≤ num ∧ 1048576 < num) := by
      apply Classical.byContradiction
      intro h
      exact hok ⟨decide_eq_true (by omega), by omega, by omega, by omega, by omega⟩
    clear hok
    rcases key with h | ⟨g1, h⟩ | ⟨g1, g2, h⟩ | ⟨g1, g2, g3, h⟩ | ⟨g1, g2, g3, g4, h⟩ | ⟨g1, g2, g3, g4, g5, h⟩
    all_goals
      go_enter Try.func5, Try.ntmps5
      go_wp2_with fail
      refine (shown01 _).mono ?_
      rintro e w1 ⟨rfl, K1⟩
      go_wp2_with fail
      refine (calc_new _).mono ?_
      rintro e w2 ⟨rfl, G1, K2⟩
      go_wp2
      go_ret
      exact ⟨rfl, (K1.trans K2).below (Nat.le_refl _) (by simp)⟩

theorem walkFixNear (a : Int) (wa : (Lit.int .i64 a).wf = true) (num : Int) (wn : (Lit.int .i64 num).wf = true) (den : Int) (wd : (Lit.int .i64 den).wf = true) (w : World) :
    Calls Try.prog 5 #[.int .i64 a, .int .i64 num, .int .i64 den] w fun e w' => e = .returned (.bool true) ∧ Below w.heap.size w w' := by
  simp [Lit.wf, IntKind.min, IntKind.max, IntKind.signed, IntKind.bits] at wa wn
  exact walkNear a num den w (by omega) (by omega) (by omega) (by omega)

end Go.Proofs.Ytldckefnelgdgaa
