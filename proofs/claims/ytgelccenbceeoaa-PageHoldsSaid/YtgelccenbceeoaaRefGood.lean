/- The reference's Good, by a contract. -/
import Derived.Test.YtgelccenbceeoaaPage
import Derived.BigQuiet
namespace Go.Proofs.Ytgelccenbceeoaa
open Go.RowKit
set_option linter.unusedSimpArgs false
set_option linter.unusedVariables false

set_option maxHeartbeats 1600000 in
set_option maxRecDepth 100000 in
theorem rgood_any (A : Option Addr) (c : Nat) (l : List Slab) (n : Int) (w : World) (hr : Rd Slab.row 9 w A l) (hl : l.length ≤ 9223372036854775807) (hof : OfIn l) (N : Nat) (hN : l.length = N) :
    Calls Try.prog 42 #[.slice A N c, .int .i64 n] w fun e w' => e = .returned (.bool (good l n)) ∧ Keep [] w w' := by
  subst hN
  by_cases h0 : n < 0
  · rw [good_neg h0]
    go_enter Try.func42, Try.ntmps42
    go_wp2
    go_ret
    exact ⟨rfl, Keep.refl _ _⟩
  · obtain ⟨k, rfl⟩ : ∃ k : Nat, n = k := ⟨n.toNat, by omega⟩
    rw [good_nat]
    clear h0
    by_cases h1 : k < l.length
    · have h1' : (k : Int) < (l.length : Int) := by omega
      by_cases h2 : k + 1 = l.length
      · have h2' : (k : Int) = (l.length : Int) - 1 := by omega
        rw [goodN_last h2]
        obtain rfl : k = l.length - 1 := by omega
        have h3 : IntKind.i64.wrap ((l.length : Int) - 1) = (l.length : Int) - 1 := IntWalk.i64_in _ (by omega)
        have h4 : ((l.length - 1 : Nat) : Int) = (l.length : Int) - 1 := by omega
        rw [h4]
        clear h4 h2' h1'
        have h5 : (l.length : Int) - 1 < (l.length : Int) := by omega
        have h6 : 0 ≤ (l.length : Int) - 1 := by omega
        go_enter Try.func42, Try.ntmps42
        go_upto_region 3 with (fail)
        go_quiet (fail)
        go_wp2
        go_ret
        exact ⟨rfl, (Keep.refl _ _).drewN _⟩
      · obtain ⟨s, hs⟩ : ∃ s, l[k]? = some s := ⟨l[k], List.getElem?_eq_getElem h1⟩
        obtain ⟨t, ht⟩ : ∃ t, l[k + 1]? = some t := ⟨l[k + 1]'(by omega), List.getElem?_eq_getElem (by omega)⟩
        rw [goodN_mid hs ht]
        obtain ⟨ad, hA, hcs⟩ := hr k s hs
        obtain ⟨ad', hA', hds⟩ := hr (k + 1) t ht
        rw [hA] at hA'
        obtain rfl := Option.some.inj hA'
        subst hA
        have ho := hof t (List.mem_of_getElem? ht)
        have c0 := hcs 0 _ rfl
        have d0 := hds 0 _ rfl
        have d1 := hds 1 _ rfl
        have d2 := hds 2 _ rfl
        have d3 := hds 3 _ rfl
        have d4 := hds 4 _ rfl
        have d5 := hds 5 _ rfl
        have d6 := hds 6 _ rfl
        have d7 := hds 7 _ rfl
        have d8 := hds 8 _ rfl
        rw [add_at _ _ _ (by omega)] at d1 d2 d3 d4 d5 d6 d7 d8
        rw [Nat.add_zero] at d0 c0
        have hk1 : (k : Int) + 1 < (l.length : Int) := by omega
        have hk2 : IntKind.i64.wrap ((k : Int) + 1) = (k : Int) + 1 := IntWalk.i64_in _ (by omega)
        have hk3 : ((k : Int) + 1).toNat = k + 1 := by omega
        have hk4 : (0 : Int) ≤ (k : Int) + 1 := by omega
        have hk5 : IntKind.i64.wrap ((l.length : Int) - 1) = (l.length : Int) - 1 := IntWalk.i64_in _ (by omega)
        have hk6 : ((k : Int) == (l.length : Int) - 1) = false := by simp; omega
        clear hcs hds hs ht h2
        by_cases hp : t.pr = s.pr
        · have hp' : decide (t.pr ≠ s.pr) = false := by simp [hp]
          have hp2 : (t.pr != s.pr) = false := by simp [hp]
          rw [hp', Bool.false_or]
          clear hp hp'
          by_cases g1 : 2 ≤ t.ix
          · by_cases g2 : t.ix < t.of_
            · have hsub : IntKind.i64.wrap (t.of_ - t.ix) = t.of_ - t.ix := IntWalk.i64_in _ (by omega)
              by_cases g3 : 2 ≤ t.of_ - t.ix
              · rw [decide_eq_true (show 2 ≤ t.ix ∧ t.ix + 2 ≤ t.of_ by omega)]
                go_enter Try.func42, Try.ntmps42
                go_upto_region 3 with (fail)
                go_quiet (fail)
                have e0 : (w.drewN nq).cell? _ = _ := d0
                have e7 : (w.drewN nq).cell? _ = _ := d7
                have e8 : (w.drewN nq).cell? _ = _ := d8
                have K2 : Keep [] w (w.drewN nq) := (Keep.refl _ _).drewN _
                generalize w.drewN nq = W2 at *
                clear c0 d0 d1 d2 d3 d4 d5 d6 d7 d8 hp2
                go_upto_region 5 with (fail)
                go_quiet (fail)
                go_wp2
                all_goals
                  go_ret
                  exact ⟨by first | rfl | simp | (simp; omega), K2.drewN _⟩
              · rw [decide_eq_false (show ¬ (2 ≤ t.ix ∧ t.ix + 2 ≤ t.of_) by omega)]
                have g3' : t.of_ - t.ix < 2 := by omega
                go_enter Try.func42, Try.ntmps42
                go_upto_region 3 with (fail)
                go_quiet (fail)
                have e0 : (w.drewN nq).cell? _ = _ := d0
                have e7 : (w.drewN nq).cell? _ = _ := d7
                have e8 : (w.drewN nq).cell? _ = _ := d8
                have K2 : Keep [] w (w.drewN nq) := (Keep.refl _ _).drewN _
                generalize w.drewN nq = W2 at *
                clear c0 d0 d1 d2 d3 d4 d5 d6 d7 d8 hp2
                go_upto_region 5 with (fail)
                go_quiet (fail)
                go_wp2
                all_goals
                  go_ret
                  exact ⟨by first | rfl | simp | (simp; omega), K2.drewN _⟩
            · rw [decide_eq_false (show ¬ (2 ≤ t.ix ∧ t.ix + 2 ≤ t.of_) by omega)]
              have g2' : t.of_ ≤ t.ix := by omega
              go_enter Try.func42, Try.ntmps42
              go_upto_region 3 with (fail)
              go_quiet (fail)
              have e0 : (w.drewN nq).cell? _ = _ := d0
              have e7 : (w.drewN nq).cell? _ = _ := d7
              have e8 : (w.drewN nq).cell? _ = _ := d8
              have K2 : Keep [] w (w.drewN nq) := (Keep.refl _ _).drewN _
              generalize w.drewN nq = W2 at *
              clear c0 d0 d1 d2 d3 d4 d5 d6 d7 d8 hp2
              go_upto_region 5 with (fail)
              go_quiet (fail)
              go_wp2
              all_goals
                go_ret
                exact ⟨by first | rfl | simp | (simp; omega), K2.drewN _⟩
          · rw [decide_eq_false (show ¬ (2 ≤ t.ix ∧ t.ix + 2 ≤ t.of_) by omega)]
            have g1' : t.ix < 2 := by omega
            go_enter Try.func42, Try.ntmps42
            go_upto_region 3 with (fail)
            go_quiet (fail)
            have e0 : (w.drewN nq).cell? _ = _ := d0
            have e7 : (w.drewN nq).cell? _ = _ := d7
            have e8 : (w.drewN nq).cell? _ = _ := d8
            have K2 : Keep [] w (w.drewN nq) := (Keep.refl _ _).drewN _
            generalize w.drewN nq = W2 at *
            clear c0 d0 d1 d2 d3 d4 d5 d6 d7 d8 hp2
            go_upto_region 5 with (fail)
            go_quiet (fail)
            go_wp2
            all_goals
              go_ret
              exact ⟨by first | rfl | simp | (simp; omega), K2.drewN _⟩
        · have hp' : decide (t.pr ≠ s.pr) = true := by simp [hp]
          have hp2 : (t.pr != s.pr) = true := by simp [hp]
          rw [hp', Bool.true_or]
          clear hp'
          go_enter Try.func42, Try.ntmps42
          go_upto_region 3 with (fail)
          go_quiet (fail)
          have e0 : (w.drewN nq).cell? _ = _ := d0
          have e1 : (w.drewN nq).cell? _ = _ := d1
          have e2 : (w.drewN nq).cell? _ = _ := d2
          have e3 : (w.drewN nq).cell? _ = _ := d3
          have e4 : (w.drewN nq).cell? _ = _ := d4
          have e5 : (w.drewN nq).cell? _ = _ := d5
          have e6 : (w.drewN nq).cell? _ = _ := d6
          have e7 : (w.drewN nq).cell? _ = _ := d7
          have e8 : (w.drewN nq).cell? _ = _ := d8
          have K2 : Keep [] w (w.drewN nq) := (Keep.refl _ _).drewN _
          generalize w.drewN nq = W2 at *
          clear c0 d0 d1 d2 d3 d4 d5 d6 d7 d8
          go_wp2
          all_goals
            go_ret
            exact ⟨by first | rfl | simp | (simp; omega), by first | exact K2 | exact K2.alloc _⟩
    · have h1' : (l.length : Int) ≤ (k : Int) := by omega
      rw [goodN_past (by omega)]
      go_enter Try.func42, Try.ntmps42
      go_wp2
      go_ret
      exact ⟨rfl, Keep.refl _ _⟩

end Go.Proofs.Ytgelccenbceeoaa
