/- The reference's Calc: told, Add, Sub, Neg, Times, by contracts. -/
import Derived.Test.YtldckefnelgdgaaRefShare
import Derived.Test.YtldckefnelgdgaaNearLaw
namespace Go.Proofs.Ytldckefnelgdgaa
open Go.RowKit
set_option linter.unusedSimpArgs false
set_option linter.unusedVariables false

/-- A Calc of the reference's lies at q. -/
def IsB (w : World) (q : Nat) (bad : Bool) : Prop := w.heap[q]? = some (.cells #[.bool bad] 36 (0, 0))
theorem IsB.keep {w w' : World} {g : Nat} {bad : Bool} {S : List Nat} (h : IsB w g bad) (k : Keep S w w') (hs : g ∉ S) : IsB w' g bad := k.blk h hs
def RToldPost (q : Nat) (bad : Bool) (x : Option Int) (w : World) (e : Ending) (w' : World) : Prop :=
  e = .returned (.int .i64 (ansC bad x)) ∧ IsB w' q (badC bad x) ∧ Keep [q] w w'

set_option maxHeartbeats 1600000 in
theorem rtold_any (q : Nat) (bad : Bool) (v : Int) (ok : Bool) (w : World) (hq : IsB w q bad) : Calls Try.prog 38 #[.pointer (some ⟨q, 0, none⟩), .int .i64 v, .bool ok] w fun e w' => RToldPost q bad (if ok = true then lim v else none) w e w' := by
  have hlt := blk_lt hq
  have c0 := (blk_cell hq 0)
  have f0 := blk_free hq 0
  simp only [List.getElem?_toArray, List.getElem?_cons_zero] at c0
  have hset : IsB (w.setCell ⟨q, 0, none⟩ (.bool true)) q true := (blk_set hq 0 (.bool true)).trans (by simp)
  have hkeep : Keep [q] w (w.setCell ⟨q, 0, none⟩ (.bool true)) := (Keep.refl _ _).set (by simp) _
  have HS := hid hset
  have HQ := hid hq
  clear hset hq
  cases bad with
  | true =>
    go_enter Try.func38, Try.ntmps38
    go_wp2
    all_goals
      go_ret
      exact ⟨rfl, HS.out, hkeep⟩
  | false =>
    cases ok with
    | false =>
      go_enter Try.func38, Try.ntmps38
      go_wp2
      go_ret
      exact ⟨rfl, HS.out, hkeep⟩
    | true =>
      cases hv : lenB v with
      | true =>
        have hx : (if (true : Bool) = true then lim v else none) = some v := by rw [if_pos rfl]; exact lim_yes (lenB_yes hv)
        rw [hx]
        have Hv := hid hv
        clear hv hx hkeep
        go_enter Try.func38, Try.ntmps38
        go_wp2_with fail
        refine (rlength_yes _ Hv.out).mono ?_
        rintro e w1 ⟨rfl, rfl⟩
        go_wp2
        go_ret
        exact ⟨rfl, HQ.out, Keep.refl _ _⟩
      | false =>
        have hx : (if (true : Bool) = true then lim v else none) = none := by rw [if_pos rfl]; exact lim_no (lenB_no hv)
        rw [hx]
        have Hv := hid hv
        clear hv hx
        go_enter Try.func38, Try.ntmps38
        go_wp2_with fail
        refine (rlength_no _ Hv.out).mono ?_
        rintro e w1 ⟨rfl, rfl⟩
        go_wp2
        go_ret
        exact ⟨rfl, HS.out, hkeep⟩

/-- told of a length or none, under its answer's name. -/
theorem rtold_lim {x : Option Int} (q : Nat) (bad : Bool) (v : Int) (w : World) (hq : IsB w q bad) (h : lim v = x) : Calls Try.prog 38 #[.pointer (some ⟨q, 0, none⟩), .int .i64 v, .bool true] w fun e w' => RToldPost q bad x w e w' := by
  have := rtold_any q bad v true w hq
  rw [if_pos rfl, h] at this
  exact this
theorem rtold_none {x : Option Int} (q : Nat) (bad : Bool) (v : Int) (w : World) (hq : IsB w q bad) (h : x = none) : Calls Try.prog 38 #[.pointer (some ⟨q, 0, none⟩), .int .i64 v, .bool false] w fun e w' => RToldPost q bad x w e w' := by
  have := rtold_any q bad v false w hq
  rw [if_neg (by simp)] at this
  rw [h]
  exact this

theorem radd_any (q : Nat) (bad : Bool) (a b : Int) (w : World) (hq : IsB w q bad) : Calls Try.prog 26 #[.pointer (some ⟨q, 0, none⟩), .int .i64 a, .int .i64 b] w fun e w' => RToldPost q bad (sumX a b) w e w' := by
  cases ha : lenB a with
  | false =>
    have HN := hid (show sumX a b = none by unfold sumX; rw [if_neg (by rw [ha]; simp)])
    have Ha := hid ha
    clear ha
    have HC := hid (rtold_none q bad 0 w hq HN.out)
    clear hq
    go_enter Try.func26, Try.ntmps26
    go_wp2_with fail
    refine (rlength_no _ Ha.out).mono ?_
    rintro e w1 ⟨rfl, rfl⟩
    go_wp2_with fail
    refine HC.out.mono ?_
    rintro e w1 ⟨rfl, G, K⟩
    go_wp2
    go_ret
    exact ⟨rfl, G, K⟩
  | true =>
    cases hb : lenB b with
    | false =>
      have HN := hid (show sumX a b = none by unfold sumX; rw [if_neg (by rw [hb]; simp)])
      have Ha := hid ha
      have Hb := hid hb
      clear ha hb
      have HC := hid (rtold_none q bad 0 w hq HN.out)
      clear hq
      go_enter Try.func26, Try.ntmps26
      go_wp2_with fail
      refine (rlength_yes _ Ha.out).mono ?_
      rintro e w1 ⟨rfl, rfl⟩
      go_wp2_with fail
      refine (rlength_no _ Hb.out).mono ?_
      rintro e w1 ⟨rfl, rfl⟩
      go_wp2_with fail
      refine HC.out.mono ?_
      rintro e w1 ⟨rfl, G, K⟩
      go_wp2
      go_ret
      exact ⟨rfl, G, K⟩
    | true =>
      have HN := hid (show lim (a + b) = sumX a b by unfold sumX; rw [if_pos ⟨ha, hb⟩])
      have Ha := hid ha
      have Hb := hid hb
      obtain ⟨a0, a1⟩ := lenB_yes ha
      obtain ⟨b0, b1⟩ := lenB_yes hb
      clear ha hb
      have HC := hid (rtold_lim q bad (a + b) w hq HN.out)
      clear hq
      go_enter Try.func26, Try.ntmps26
      go_wp2_with fail
      refine (rlength_yes _ Ha.out).mono ?_
      rintro e w1 ⟨rfl, rfl⟩
      go_wp2_with fail
      refine (rlength_yes _ Hb.out).mono ?_
      rintro e w1 ⟨rfl, rfl⟩
      go_wp2_with fail
      refine HC.out.mono ?_
      rintro e w1 ⟨rfl, G, K⟩
      go_wp2
      go_ret
      exact ⟨rfl, G, K⟩

theorem rsub_any (q : Nat) (bad : Bool) (a b : Int) (w : World) (hq : IsB w q bad) : Calls Try.prog 27 #[.pointer (some ⟨q, 0, none⟩), .int .i64 a, .int .i64 b] w fun e w' => RToldPost q bad (subX a b) w e w' := by
  cases ha : lenB a with
  | false =>
    have HN := hid (show subX a b = none by unfold subX; rw [if_neg (by rw [ha]; simp)])
    have Ha := hid ha
    clear ha
    have HC := hid (rtold_none q bad 0 w hq HN.out)
    clear hq
    go_enter Try.func27, Try.ntmps27
    go_wp2_with fail
    refine (rlength_no _ Ha.out).mono ?_
    rintro e w1 ⟨rfl, rfl⟩
    go_wp2_with fail
    refine HC.out.mono ?_
    rintro e w1 ⟨rfl, G, K⟩
    go_wp2
    go_ret
    exact ⟨rfl, G, K⟩
  | true =>
    cases hb : lenB b with
    | false =>
      have HN := hid (show subX a b = none by unfold subX; rw [if_neg (by rw [hb]; simp)])
      have Ha := hid ha
      have Hb := hid hb
      clear ha hb
      have HC := hid (rtold_none q bad 0 w hq HN.out)
      clear hq
      go_enter Try.func27, Try.ntmps27
      go_wp2_with fail
      refine (rlength_yes _ Ha.out).mono ?_
      rintro e w1 ⟨rfl, rfl⟩
      go_wp2_with fail
      refine (rlength_no _ Hb.out).mono ?_
      rintro e w1 ⟨rfl, rfl⟩
      go_wp2_with fail
      refine HC.out.mono ?_
      rintro e w1 ⟨rfl, G, K⟩
      go_wp2
      go_ret
      exact ⟨rfl, G, K⟩
    | true =>
      have HN := hid (show lim (a - b) = subX a b by unfold subX; rw [if_pos ⟨ha, hb⟩])
      have Ha := hid ha
      have Hb := hid hb
      obtain ⟨a0, a1⟩ := lenB_yes ha
      obtain ⟨b0, b1⟩ := lenB_yes hb
      clear ha hb
      have HC := hid (rtold_lim q bad (a - b) w hq HN.out)
      clear hq
      go_enter Try.func27, Try.ntmps27
      go_wp2_with fail
      refine (rlength_yes _ Ha.out).mono ?_
      rintro e w1 ⟨rfl, rfl⟩
      go_wp2_with fail
      refine (rlength_yes _ Hb.out).mono ?_
      rintro e w1 ⟨rfl, rfl⟩
      go_wp2_with fail
      refine HC.out.mono ?_
      rintro e w1 ⟨rfl, G, K⟩
      go_wp2
      go_ret
      exact ⟨rfl, G, K⟩


theorem rneg_any (q : Nat) (bad : Bool) (a : Int) (w : World) (hq : IsB w q bad) : Calls Try.prog 29 #[.pointer (some ⟨q, 0, none⟩), .int .i64 a] w fun e w' => RToldPost q bad (mulX a (-1)) w e w' := by
  cases ha : lenB a with
  | false =>
    have HN := hid (mulX_no (n := -1) ha)
    have Ha := hid ha
    clear ha
    have HC := hid (rtold_none q bad 0 w hq HN.out)
    clear hq
    go_enter Try.func29, Try.ntmps29
    go_wp2_with fail
    refine (rlength_no _ Ha.out).mono ?_
    rintro e w1 ⟨rfl, rfl⟩
    go_wp2_with fail
    refine HC.out.mono ?_
    rintro e w1 ⟨rfl, G, K⟩
    go_wp2
    go_ret
    exact ⟨rfl, G, K⟩
  | true =>
    have HN := hid (show lim (-a) = mulX a (-1) by unfold mulX; rw [if_pos ha]; congr 1; omega)
    have Ha := hid ha
    obtain ⟨a0, a1⟩ := lenB_yes ha
    clear ha
    have HC := hid (rtold_lim q bad (-a) w hq HN.out)
    clear hq
    go_enter Try.func29, Try.ntmps29
    go_wp2_with fail
    refine (rlength_yes _ Ha.out).mono ?_
    rintro e w1 ⟨rfl, rfl⟩
    go_wp2_with fail
    refine HC.out.mono ?_
    rintro e w1 ⟨rfl, G, K⟩
    go_wp2
    go_ret
    exact ⟨rfl, G, K⟩

theorem mulX_zero {a n : Int} (ha : lenB a = true) (h : a = 0 ∨ n = 0) : lim 0 = mulX a n := by
  unfold mulX
  rw [if_pos ha]
  rcases h with rfl | rfl
  · rw [Int.zero_mul]
  · rw [Int.mul_zero]

/-- A product of two numbers that are not 0: none, if it is too great. -/
theorem mulX_abs {a n : Int} (ha : lenB a = true) (hn : n ≠ 0) : (70368744177664 / n.natAbs < a.natAbs → mulX a n = none) ∧ (a.natAbs ≤ 70368744177664 / n.natAbs → -70368744177664 ≤ a * n ∧ a * n ≤ 70368744177664) := by
  have hp : 0 < n.natAbs := by omega
  have e : (a * n).natAbs = a.natAbs * n.natAbs := Int.natAbs_mul a n
  constructor
  · intro h
    rw [Nat.div_lt_iff_lt_mul hp] at h
    unfold mulX
    rw [if_pos ha]
    exact lim_no (by omega)
  · intro h
    rw [Nat.le_div_iff_mul_le hp] at h
    omega

theorem mulX_far {a n : Int} (ha : lenB a = true) (h0 : a ≠ 0) (h : n < -70368744177664 ∨ 70368744177664 < n) : mulX a n = none := by
  have e : (a * n).natAbs = a.natAbs * n.natAbs := Int.natAbs_mul a n
  have h1 : 1 * n.natAbs ≤ a.natAbs * n.natAbs := Nat.mul_le_mul_right _ (by omega)
  unfold mulX
  rw [if_pos ha]
  exact lim_no (by omega)

set_option maxHeartbeats 3200000 in
theorem rtimes_any (q : Nat) (bad : Bool) (a n : Int) (w : World) (hq : IsB w q bad) : Calls Try.prog 30 #[.pointer (some ⟨q, 0, none⟩), .int .i64 a, .int .i64 n] w fun e w' => RToldPost q bad (mulX a n) w e w' := by
  cases ha : lenB a with
  | false =>
    have HN := hid (mulX_no (n := n) ha)
    have Ha := hid ha
    clear ha
    have HC := hid (rtold_none q bad 0 w hq HN.out)
    clear hq
    go_enter Try.func30, Try.ntmps30
    go_wp2_with fail
    refine (rlength_no _ Ha.out).mono ?_
    rintro e w1 ⟨rfl, rfl⟩
    go_wp2_with fail
    refine HC.out.mono ?_
    rintro e w1 ⟨rfl, G, K⟩
    go_wp2
    go_ret
    exact ⟨rfl, G, K⟩
  | true =>
    have Ha := hid ha
    obtain ⟨a0, a1⟩ := lenB_yes ha
    by_cases h0 : a = 0 ∨ n = 0
    · have HC := hid (rtold_lim q bad 0 w hq (mulX_zero ha h0))
      clear hq ha
      have key : (a == 0) = true ∨ (a == 0) = false ∧ (n == 0) = true := by
        by_cases h : a = 0
        · exact .inl (by simp [h])
        · exact .inr ⟨by simp [h], by simp; exact h0.resolve_left h⟩
      clear h0
      rcases key with k1 | ⟨k1, k2⟩
      all_goals
        go_enter Try.func30, Try.ntmps30
        go_wp2_with fail
        refine (rlength_yes _ Ha.out).mono ?_
        rintro e w1 ⟨rfl, rfl⟩
        go_wp2_with fail
        refine HC.out.mono ?_
        rintro e w1 ⟨rfl, G, K⟩
        go_wp2
        go_ret
        exact ⟨rfl, G, K⟩
    · have h1 : a ≠ 0 := fun h => h0 (.inl h)
      have h2 : n ≠ 0 := fun h => h0 (.inr h)
      have k1 : (a == 0) = false := by simp [h1]
      have k2 : (n == 0) = false := by simp [h2]
      by_cases hf : n < -70368744177664 ∨ 70368744177664 < n
      · have HC := hid (rtold_none q bad 0 w hq (mulX_far ha h1 hf))
        have key : 70368744177664 < n ∨ (n ≤ 70368744177664 ∧ n < -70368744177664) := by omega
        clear hq ha h0 h1 h2 hf
        rcases key with g1 | ⟨g1, g2⟩
        all_goals
          go_enter Try.func30, Try.ntmps30
          go_wp2_with fail
          refine (rlength_yes _ Ha.out).mono ?_
          rintro e w1 ⟨rfl, rfl⟩
          go_wp2_with fail
          refine HC.out.mono ?_
          rintro e w1 ⟨rfl, G, K⟩
          go_wp2
          go_ret
          exact ⟨rfl, G, K⟩
      · have g1 : n ≤ 70368744177664 := by omega
        have g2 : -70368744177664 ≤ n := by omega
        obtain ⟨m1, m2⟩ := mulX_abs ha h2
        have HL := hid (show lim (a * n) = mulX a n by unfold mulX; rw [if_pos ha])
        obtain ⟨X, hX⟩ : ∃ X : Int, X = (a.natAbs : Int) := ⟨_, rfl⟩
        obtain ⟨Y, hY⟩ : ∃ Y : Int, Y = (n.natAbs : Int) := ⟨_, rfl⟩
        obtain ⟨TN, hTN⟩ : ∃ TN, TN = 70368744177664 / n.natAbs := ⟨_, rfl⟩
        obtain ⟨T, hT⟩ : ∃ T : Int, T = (TN : Int) := ⟨_, rfl⟩
        have eT : 70368744177664 / Y = T := by rw [hT, hTN, hY]; rfl
        have hXr : 0 ≤ X ∧ X ≤ 70368744177664 := by omega
        have hYr : 1 ≤ Y ∧ Y ≤ 70368744177664 := by omega
        have hTr : 0 ≤ T ∧ T ≤ 70368744177664 := by
          have : 70368744177664 / n.natAbs ≤ 70368744177664 := Nat.div_le_self _ _
          rw [← hTN] at this
          clear eT m1 m2 hTN
          omega
        rw [← hTN] at m1 m2
        have m1' : T < X → mulX a n = none := fun h => m1 (by omega)
        have m2' : X ≤ T → -70368744177664 ≤ a * n ∧ a * n ≤ 70368744177664 := fun h => m2 (by omega)
        have sa : (a < 0 ∧ -a = X) ∨ (0 ≤ a ∧ a = X) := by omega
        have sn : (n < 0 ∧ -n = Y) ∨ (0 ≤ n ∧ n = Y) := by omega
        obtain ⟨x0, x1⟩ := hXr
        obtain ⟨y0, y1⟩ := hYr
        obtain ⟨t0, t1⟩ := hTr
        have H1 := hid m1'
        have H2 := hid m2'
        clear m1 m2 m1' m2' hX hY hT hTN h0 h1 h2 hf ha
        by_cases hb : T < X
        · have HC := hid (rtold_none q bad 0 w hq (H1.out hb))
          clear hq H2 HL
          rcases sa with ⟨s0, s1⟩ | ⟨s0, rfl⟩ <;> rcases sn with ⟨s2, s3⟩ | ⟨s2, rfl⟩
          all_goals
            go_enter Try.func30, Try.ntmps30
            go_wp2_with fail
            refine (rlength_yes _ Ha.out).mono ?_
            rintro e w1 ⟨rfl, rfl⟩
            go_wp2_with fail
            refine HC.out.mono ?_
            rintro e w1 ⟨rfl, G, K⟩
            go_wp2
            go_ret
            exact ⟨rfl, G, K⟩
        · obtain ⟨p0, p1⟩ := H2.out (by omega)
          have HC0 := rtold_lim q bad (a * n) w hq HL.out
          have pw : wrap64 (a * n) = a * n := by unfold wrap64; omega
          obtain ⟨Z, hZ⟩ : ∃ Z, Z = a * n := ⟨_, rfl⟩
          rw [← hZ] at HC0 pw
          have hw : wrap64 (a * n) = Z := by rw [← hZ]; exact pw
          have HC := hid HC0
          clear hq H2 HL H1 pw hZ p0 p1 HC0
          rcases sa with ⟨s0, s1⟩ | ⟨s0, rfl⟩ <;> rcases sn with ⟨s2, s3⟩ | ⟨s2, rfl⟩
          all_goals
            go_enter Try.func30, Try.ntmps30
            go_wp2_with fail
            refine (rlength_yes _ Ha.out).mono ?_
            rintro e w1 ⟨rfl, rfl⟩
            go_wp2_with fail
            refine HC.out.mono ?_
            rintro e w1 ⟨rfl, G, K⟩
            go_wp2
            go_ret
            exact ⟨rfl, G, K⟩

end Go.Proofs.Ytldckefnelgdgaa
