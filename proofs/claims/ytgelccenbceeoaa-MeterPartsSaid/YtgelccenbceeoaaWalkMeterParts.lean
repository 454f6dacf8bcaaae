/- The walk of MeterParts: two charges, one behind the other, are one of both together. -/
import Derived.Test.YtgelccenbceeoaaShown02
namespace Go.Proofs.Ytgelccenbceeoaa
open Go.RowKit

theorem MS.step_parts {m : MS} (ok : m.ok) {a b : Int} (ha : 0 ≤ a) (hb : 0 ≤ b) :
    ((m.step a).2.step b).1 = (m.step (a + b)).1 ∧ ((m.step a).1 = true ∨ ((m.step a).2.step b).1 = false) ∧ ((m.step a).2.step b).2 = (m.step (a + b)).2 := by
  unfold MS.ok at ok
  by_cases h0 : m.rf = 0
  · by_cases h1 : m.sb - m.sn < a
    · have e1 : m.step a = (false, { m.addS (m.sb - m.sn) with rf := 20 }) := by unfold MS.step; rw [if_neg (by omega), if_pos h1]
      have e2 : m.step (a + b) = (false, { m.addS (m.sb - m.sn) with rf := 20 }) := by unfold MS.step; rw [if_neg (by omega), if_pos (by omega)]
      rw [e1, e2]
      have e3 : ({ m.addS (m.sb - m.sn) with rf := 20 } : MS).step b = (false, { m.addS (m.sb - m.sn) with rf := 20 }) := by unfold MS.step; rw [if_pos (.inr (by simp))]
      simp only [e3]
      simp
    · have e1 : m.step a = (true, m.addS a) := by unfold MS.step; rw [if_neg (by omega), if_neg h1]
      rw [e1]
      simp only
      by_cases h2 : m.sb - m.sn < a + b
      · have e2 : m.step (a + b) = (false, { m.addS (m.sb - m.sn) with rf := 20 }) := by unfold MS.step; rw [if_neg (by omega), if_pos h2]
        have e3 : (m.addS a).step b = (false, { (m.addS a).addS (m.sb - (m.sn + a)) with rf := 20 }) := by
          unfold MS.step; rw [if_neg (by simp only [MS.addS]; omega), if_pos (by simp only [MS.addS]; omega)]; rfl
        rw [e2, e3]
        refine ⟨rfl, .inr rfl, ?_⟩
        simp only [MS.addS, MS.mk.injEq, and_true, true_and]
        exact ⟨by omega, by repeat' split <;> omega⟩
      · have e2 : m.step (a + b) = (true, m.addS (a + b)) := by unfold MS.step; rw [if_neg (by omega), if_neg h2]
        have e3 : (m.addS a).step b = (true, (m.addS a).addS b) := by
          unfold MS.step; rw [if_neg (by simp only [MS.addS]; omega), if_neg (by simp only [MS.addS]; omega)]
        rw [e2, e3]
        refine ⟨rfl, .inl (by simp), ?_⟩
        simp only [MS.addS, MS.mk.injEq, and_true]
        exact ⟨by omega, by repeat' split <;> omega⟩
  · have e : ∀ n, m.step n = (false, m) := fun n => by unfold MS.step; rw [if_pos (.inr h0)]
    simp only [e]
    exact ⟨trivial, .inr trivial, trivial⟩

theorem MS.hold_parts {m : MS} (ok : m.ok) {a b : Int} (ha : 0 ≤ a) (hb : 0 ≤ b) :
    ((m.hold a).2.hold b).1 = (m.hold (a + b)).1 ∧ ((m.hold a).1 = true ∨ ((m.hold a).2.hold b).1 = false) ∧ ((m.hold a).2.hold b).2 = (m.hold (a + b)).2 := by
  unfold MS.ok at ok
  by_cases h0 : m.rf = 0
  · by_cases h1 : m.cb - m.cn < a
    · have e1 : m.hold a = (false, { m.addC (m.cb - m.cn) with rf := 21 }) := by unfold MS.hold; rw [if_neg (by omega), if_pos h1]
      have e2 : m.hold (a + b) = (false, { m.addC (m.cb - m.cn) with rf := 21 }) := by unfold MS.hold; rw [if_neg (by omega), if_pos (by omega)]
      rw [e1, e2]
      have e3 : ({ m.addC (m.cb - m.cn) with rf := 21 } : MS).hold b = (false, { m.addC (m.cb - m.cn) with rf := 21 }) := by unfold MS.hold; rw [if_pos (.inr (by simp))]
      simp only [e3]
      simp
    · have e1 : m.hold a = (true, m.addC a) := by unfold MS.hold; rw [if_neg (by omega), if_neg h1]
      rw [e1]
      simp only
      by_cases h2 : m.cb - m.cn < a + b
      · have e2 : m.hold (a + b) = (false, { m.addC (m.cb - m.cn) with rf := 21 }) := by unfold MS.hold; rw [if_neg (by omega), if_pos h2]
        have e3 : (m.addC a).hold b = (false, { (m.addC a).addC (m.cb - (m.cn + a)) with rf := 21 }) := by
          unfold MS.hold; rw [if_neg (by simp only [MS.addC]; omega), if_pos (by simp only [MS.addC]; omega)]; rfl
        rw [e2, e3]
        refine ⟨rfl, .inr rfl, ?_⟩
        simp only [MS.addC, MS.mk.injEq, and_true, true_and]
        exact ⟨by omega, by repeat' split <;> omega⟩
      · have e2 : m.hold (a + b) = (true, m.addC (a + b)) := by unfold MS.hold; rw [if_neg (by omega), if_neg h2]
        have e3 : (m.addC a).hold b = (true, (m.addC a).addC b) := by
          unfold MS.hold; rw [if_neg (by simp only [MS.addC]; omega), if_neg (by simp only [MS.addC]; omega)]
        rw [e2, e3]
        refine ⟨rfl, .inl (by simp), ?_⟩
        simp only [MS.addC, MS.mk.injEq, and_true, true_and]
        exact ⟨by omega, by repeat' split <;> omega⟩
  · have e : ∀ n, m.hold n = (false, m) := fun n => by unfold MS.hold; rw [if_pos (.inr h0)]
    simp only [e]
    exact ⟨trivial, .inr trivial, trivial⟩

theorem i64_of_wf {a : Int} (h : (Lit.int .i64 a).wf = true) : -9223372036854775808 ≤ a ∧ a ≤ 9223372036854775807 := by
  simp [Lit.wf, IntKind.min, IntKind.max, IntKind.signed, IntKind.bits] at h
  omega

set_option maxHeartbeats 1600000 in
theorem walkMeterParts (s : Int) (ws : (Lit.int .i64 s).wf = true) (c : Int) (wc : (Lit.int .i64 c).wf = true) (a : Int) (wa : (Lit.int .i64 a).wf = true) (b : Int) (wb : (Lit.int .i64 b).wf = true) (hold : Bool) (w : World) :
    Calls Try.prog 3 #[.int .i64 s, .int .i64 c, .int .i64 a, .int .i64 b, .bool hold] w fun e w' => e = .returned (.bool true) ∧ Below w.heap.size w w' := by
  have bs := i64_of_wf ws
  have bc := i64_of_wf wc
  have ba := i64_of_wf wa
  have bb := i64_of_wf wb
  clear ws wc wa wb
  by_cases hbad : s < 0 ∨ c < 0
  · go_enter Try.func3, Try.ntmps3
    go_wp2_with fail
    refine (shown02 _).mono ?_
    rintro e w1 ⟨rfl, hK⟩
    go_wp2_with fail
    refine (new_bad s c _ hbad).mono ?_
    rintro e w' ⟨rfl, rfl⟩
    go_wp2_with fail
    refine (new_bad s c _ hbad).mono ?_
    rintro e w' ⟨rfl, rfl⟩
    by_cases h0 : s < 0
    · go_wp2
      go_ret
      exact ⟨rfl, hK.below (Nat.le_refl _) (by simp)⟩
    · have h1 : c < 0 := hbad.resolve_left h0
      go_wp2
      go_ret
      exact ⟨rfl, hK.below (Nat.le_refl _) (by simp)⟩
  · have hs : 0 ≤ s := by omega
    have hc : 0 ≤ c := by omega
    clear hbad
    go_enter Try.func3, Try.ntmps3
    go_wp2_with fail
    refine (shown02 _).mono ?_
    rintro e w1 ⟨rfl, hK⟩
    go_wp2_with fail
    refine (new_good s c _ hs hc).mono ?_
    rintro e w2 ⟨rfl, hM2, hK2, hs2⟩
    go_wp2_with fail
    refine (new_good s c _ hs hc).mono ?_
    rintro e w3 ⟨rfl, hN3, hK3, hs3⟩
    have hM3 := hM2.keep hK3 (by simp)
    have hne : w2.heap.size ≠ w1.heap.size := by omega
    have hk3 : Keep [] w w3 := (hK.then hK2 (by simp)).then hK3 (by simp)
    have hle : w.heap.size ≤ w1.heap.size := hK.size
    have hle2 : w.heap.size ≤ w2.heap.size := by omega
    have ok : (MS.new s c).ok := MS.ok_new hs (by omega) hc (by omega)
    clear hs2 hs3 hK hK2 hK3 hM2
    generalize MS.new s c = m at *
    generalize w1.heap.size = g at *
    generalize w2.heap.size = g2 at *
    by_cases hab : a < 0 ∨ b < 0 ∨ 9223372036854775807 - b < a
    · by_cases h0 : a < 0
      · go_wp2
        go_ret
        exact ⟨rfl, hk3.below (Nat.le_refl _) (by simp)⟩
      · by_cases h1 : b < 0
        · go_wp2
          go_ret
          exact ⟨rfl, hk3.below (Nat.le_refl _) (by simp)⟩
        · have h2 : 9223372036854775807 - b < a := by omega
          go_wp2
          go_ret
          exact ⟨rfl, hk3.below (Nat.le_refl _) (by simp)⟩
    have h0 : 0 ≤ a := by omega
    have h1 : 0 ≤ b := by omega
    have h2 : a + b ≤ 9223372036854775807 := by omega
    clear hab
    cases hold
    · obtain ⟨v1, S1, e1⟩ : ∃ v S, m.step a = (v, S) := ⟨_, _, rfl⟩
      obtain ⟨v2, S2, e2⟩ : ∃ v S, S1.step b = (v, S) := ⟨_, _, rfl⟩
      obtain ⟨v3, S3, e3⟩ : ∃ v S, m.step (a + b) = (v, S) := ⟨_, _, rfl⟩
      have ok2 := MS.ok_step ok a
      have E := MS.step_parts ok (show 0 ≤ a from by omega) (show 0 ≤ b from by omega)
      rw [e1] at ok2
      simp only [e1, e2, e3] at E
      obtain ⟨rfl, E2, rfl⟩ := E
      have H1 := hid e1
      have H2 := hid e2
      have H3 := hid e3
      clear e1 e2 e3
      have hv : (v1 = true ∧ v2 = true) ∨ (v1 = true ∧ v2 = false) ∨ (v1 = false ∧ v2 = false) := by
        cases v1 <;> cases v2 <;> simp_all
      clear E2
      rcases hv with ⟨rfl, rfl⟩ | ⟨rfl, rfl⟩ | ⟨rfl, rfl⟩
      all_goals
        go_wp2_with fail
        refine (step_any g _ a _ hM3 ok).mono ?_
        rintro e w4 ⟨rfl, hM4, hK4⟩
        rw [H1.out] at hM4 ⊢
        have hN4 := hN3.keep hK4 (by simp [hne])
        go_wp2_with fail
        refine (step_any g _ b _ hM4 ok2).mono ?_
        rintro e w5 ⟨rfl, hM5, hK5⟩
        rw [H2.out] at hM5 ⊢
        have hN5 := hN4.keep hK5 (by simp [hne])
        go_wp2_with fail
        refine (step_any g2 _ (a + b) _ hN5 ok).mono ?_
        rintro e w6 ⟨rfl, hN6, hK6⟩
        rw [H3.out] at hN6 ⊢
        have hM6 := hM5.keep hK6 (by simp [hne.symm])
        have K : Keep [] w w6 := ((hk3.then hK4 (by simp [hle])).then hK5 (by simp [hle])).then hK6 (by simp [hle2])
        clear hK4 hK5 hK6 hM4 hM5 hN4 hN5 hM3 hN3
        go_wp2_with fail
        refine (steps_any g _ _ hM6).mono ?_
        rintro e w' ⟨rfl, rfl⟩
        go_wp2_with fail
        refine (steps_any g2 _ _ hN6).mono ?_
        rintro e w' ⟨rfl, rfl⟩
        go_wp2_with fail
        refine (held_any g _ _ hM6).mono ?_
        rintro e w' ⟨rfl, rfl⟩
        go_wp2_with fail
        refine (held_any g2 _ _ hN6).mono ?_
        rintro e w' ⟨rfl, rfl⟩
        go_wp2_with fail
        refine (peak_any g _ _ hM6).mono ?_
        rintro e w' ⟨rfl, rfl⟩
        go_wp2_with fail
        refine (peak_any g2 _ _ hN6).mono ?_
        rintro e w' ⟨rfl, rfl⟩
        go_wp2_with fail
        refine (refused_any g _ _ hM6).mono ?_
        rintro e w' ⟨rfl, rfl⟩
        go_wp2_with fail
        refine (refused_any g2 _ _ hN6).mono ?_
        rintro e w' ⟨rfl, rfl⟩
        go_wp2
        go_ret
        exact ⟨rfl, K.below (Nat.le_refl _) (by simp)⟩
    · obtain ⟨v1, S1, e1⟩ : ∃ v S, m.hold a = (v, S) := ⟨_, _, rfl⟩
      obtain ⟨v2, S2, e2⟩ : ∃ v S, S1.hold b = (v, S) := ⟨_, _, rfl⟩
      obtain ⟨v3, S3, e3⟩ : ∃ v S, m.hold (a + b) = (v, S) := ⟨_, _, rfl⟩
      have ok2 := MS.ok_hold ok a
      have E := MS.hold_parts ok (show 0 ≤ a from by omega) (show 0 ≤ b from by omega)
      rw [e1] at ok2
      simp only [e1, e2, e3] at E
      obtain ⟨rfl, E2, rfl⟩ := E
      have H1 := hid e1
      have H2 := hid e2
      have H3 := hid e3
      clear e1 e2 e3
      have hv : (v1 = true ∧ v2 = true) ∨ (v1 = true ∧ v2 = false) ∨ (v1 = false ∧ v2 = false) := by
        cases v1 <;> cases v2 <;> simp_all
      clear E2
      rcases hv with ⟨rfl, rfl⟩ | ⟨rfl, rfl⟩ | ⟨rfl, rfl⟩
      all_goals
        go_wp2_with fail
        refine (hold_any g _ a _ hM3 ok).mono ?_
        rintro e w4 ⟨rfl, hM4, hK4⟩
        rw [H1.out] at hM4 ⊢
        have hN4 := hN3.keep hK4 (by simp [hne])
        go_wp2_with fail
        refine (hold_any g _ b _ hM4 ok2).mono ?_
        rintro e w5 ⟨rfl, hM5, hK5⟩
        rw [H2.out] at hM5 ⊢
        have hN5 := hN4.keep hK5 (by simp [hne])
        go_wp2_with fail
        refine (hold_any g2 _ (a + b) _ hN5 ok).mono ?_
        rintro e w6 ⟨rfl, hN6, hK6⟩
        rw [H3.out] at hN6 ⊢
        have hM6 := hM5.keep hK6 (by simp [hne.symm])
        have K : Keep [] w w6 := ((hk3.then hK4 (by simp [hle])).then hK5 (by simp [hle])).then hK6 (by simp [hle2])
        clear hK4 hK5 hK6 hM4 hM5 hN4 hN5 hM3 hN3
        go_wp2_with fail
        refine (steps_any g _ _ hM6).mono ?_
        rintro e w' ⟨rfl, rfl⟩
        go_wp2_with fail
        refine (steps_any g2 _ _ hN6).mono ?_
        rintro e w' ⟨rfl, rfl⟩
        go_wp2_with fail
        refine (held_any g _ _ hM6).mono ?_
        rintro e w' ⟨rfl, rfl⟩
        go_wp2_with fail
        refine (held_any g2 _ _ hN6).mono ?_
        rintro e w' ⟨rfl, rfl⟩
        go_wp2_with fail
        refine (peak_any g _ _ hM6).mono ?_
        rintro e w' ⟨rfl, rfl⟩
        go_wp2_with fail
        refine (peak_any g2 _ _ hN6).mono ?_
        rintro e w' ⟨rfl, rfl⟩
        go_wp2_with fail
        refine (refused_any g _ _ hM6).mono ?_
        rintro e w' ⟨rfl, rfl⟩
        go_wp2_with fail
        refine (refused_any g2 _ _ hN6).mono ?_
        rintro e w' ⟨rfl, rfl⟩
        go_wp2
        go_ret
        exact ⟨rfl, K.below (Nat.le_refl _) (by simp)⟩

end Go.Proofs.Ytgelccenbceeoaa
