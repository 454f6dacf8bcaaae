/- Layer 1: told, over each of the three exact answers; Add, Sub, Neg, Times, Scale, New, Wrong. -/
import Derived.Test.YtldckefnelgdgaaFixNear
namespace Go.Proofs.Ytldckefnelgdgaa
open Go.RowKit
set_option linter.unusedSimpArgs false
set_option linter.unusedVariables false

/-- A Calc lies at g; is it wrong? -/
def IsC (w : World) (g : Nat) (bad : Bool) : Prop := w.heap[g]? = some (.cells #[.bool bad] 45 (0, 0))
theorem IsC.keep {w w' : World} {g : Nat} {bad : Bool} {S : List Nat} (h : IsC w g bad) (k : Keep S w w') (hs : g ∉ S) : IsC w' g bad := k.blk h hs
/-- What is answered, and whether the Calc is wrong then. -/
def ansC (bad : Bool) (x : Option Int) : Int := if bad = true then 0 else x.getD 0
def badC (bad : Bool) (x : Option Int) : Bool := bad || x.isNone
def ToldPost (g : Nat) (bad : Bool) (x : Option Int) (w : World) (e : Ending) (w' : World) : Prop :=
  e = .returned (.int .i64 (ansC bad x)) ∧ IsC w' g (badC bad x) ∧ Keep [g] w w'

theorem exOf_over {b : Bool} {n : Nat} (h : 70368744177664 < n) : exOf b n true = none := by
  unfold exOf; rw [if_neg (by omega)]
theorem exOf_neg {n : Nat} (h : n ≤ 70368744177664) : exOf true n true = some (-(n : Int)) := by
  unfold exOf; rw [if_pos ⟨rfl, h⟩, if_pos rfl]
theorem exOf_pos {n : Nat} (h : n ≤ 70368744177664) : exOf false n true = some (n : Int) := by
  unfold exOf; rw [if_pos ⟨rfl, h⟩, if_neg (by simp)]

set_option maxHeartbeats 1600000 in
theorem told_sum (g : Nat) (bad : Bool) (a b : Int) (w : World) (hg : IsC w g bad) :
    Calls Try.prog 24 #[.pointer (some ⟨g, 0, none⟩), .func (.func 32) #[.agg #[.int .i64 a, .int .i64 b]] #[]] w fun e w' => ToldPost g bad (sumX a b) w e w' := by
  have c0 := blk_cell hg 0
  simp only [List.getElem?_toArray, List.getElem?_cons_zero] at c0
  cases bad with
  | true =>
    have HG := hid hg
    clear hg
    go_enter Try.func24, Try.ntmps24
    go_wp2
    go_ret
    exact ⟨rfl, HG.out, Keep.refl _ _⟩
  | false =>
    have CX := sum_any a b w
    have HCX := hid CX
    have HG := hid hg
    clear hg CX
    go_enter Try.func24, Try.ntmps24
    go_wp2_with fail
    refine (HCX.out).mono ?_
    rintro e w1 ⟨sb, nn, ok, rfl, hn, hx, K⟩
    have G1 := HG.out.keep K (by simp)
    have c1 := blk_cell G1 0
    have f1 := blk_free G1 0
    simp only [List.getElem?_toArray, List.getElem?_cons_zero] at c1
    have HX := hid hx
    have HG1 := hid G1
    have HK := hid K
    obtain ⟨m, hm⟩ : ∃ m : Int, m = (nn : Int) := ⟨_, rfl⟩
    rw [← hm]
    have HM := hid hm
    have Hn := hid hn
    clear hx hn G1 K hm c0 HG HCX
    cases ok with
    | false =>
      have HE : Hid ((sumX a b) = none) := hid (by rw [← HX.out]; exact exOf_no _ _)
      go_wp2
      go_ret
      exact ⟨by rw [HE.out]; rfl, by rw [HE.out]; exact (blk_set HG1.out 0 _).trans (by simp [badC]), (HK.out.mono (by simp)).set (.inl (by simp)) _⟩
    | true =>
      by_cases hb : 70368744177664 < m
      · have HE : Hid ((sumX a b) = none) := hid (by rw [← HX.out]; exact exOf_over (by have := HM.out; omega))
        go_wp2
        go_ret
        exact ⟨by rw [HE.out]; rfl, by rw [HE.out]; exact (blk_set HG1.out 0 _).trans (by simp [badC]), (HK.out.mono (by simp)).set (.inl (by simp)) _⟩
      · have hm0 : 0 ≤ m := by have := HM.out; omega
        have hm1 : m ≤ 70368744177664 := by omega
        clear hb
        cases sb with
        | true =>
          have HE : Hid ((sumX a b) = some (-m)) := hid (by rw [← HX.out, HM.out]; exact exOf_neg (by have := HM.out; omega))
          go_wp2
          go_ret
          exact ⟨by rw [HE.out]; rfl, by rw [HE.out]; exact HG1.out, HK.out.mono (by simp)⟩
        | false =>
          have HE : Hid ((sumX a b) = some m) := hid (by rw [← HX.out, HM.out]; exact exOf_pos (by have := HM.out; omega))
          go_wp2
          go_ret
          exact ⟨by rw [HE.out]; rfl, by rw [HE.out]; exact HG1.out, HK.out.mono (by simp)⟩

set_option maxHeartbeats 1600000 in
theorem told_product (g : Nat) (bad : Bool) (a n : Int) (w : World) (hg : IsC w g bad) (a0 : -9223372036854775808 ≤ a) (a1 : a ≤ 9223372036854775807) (n0 : -9223372036854775808 ≤ n) (n1 : n ≤ 9223372036854775807) :
    Calls Try.prog 24 #[.pointer (some ⟨g, 0, none⟩), .func (.func 33) #[.agg #[.int .i64 a, .int .i64 n]] #[]] w fun e w' => ToldPost g bad (mulX a n) w e w' := by
  have c0 := blk_cell hg 0
  simp only [List.getElem?_toArray, List.getElem?_cons_zero] at c0
  cases bad with
  | true =>
    have HG := hid hg
    clear hg
    go_enter Try.func24, Try.ntmps24
    go_wp2
    go_ret
    exact ⟨rfl, HG.out, Keep.refl _ _⟩
  | false =>
    have CX := product_any a n w a0 a1 n0 n1
    have HCX := hid CX
    have HG := hid hg
    clear hg CX
    go_enter Try.func24, Try.ntmps24
    go_wp2_with fail
    refine (HCX.out).mono ?_
    rintro e w1 ⟨sb, nn, ok, rfl, hn, hx, K⟩
    have G1 := HG.out.keep K (by simp)
    have c1 := blk_cell G1 0
    have f1 := blk_free G1 0
    simp only [List.getElem?_toArray, List.getElem?_cons_zero] at c1
    have HX := hid hx
    have HG1 := hid G1
    have HK := hid K
    obtain ⟨m, hm⟩ : ∃ m : Int, m = (nn : Int) := ⟨_, rfl⟩
    rw [← hm]
    have HM := hid hm
    have Hn := hid hn
    clear hx hn G1 K hm c0 HG HCX
    cases ok with
    | false =>
      have HE : Hid ((mulX a n) = none) := hid (by rw [← HX.out]; exact exOf_no _ _)
      go_wp2
      go_ret
      exact ⟨by rw [HE.out]; rfl, by rw [HE.out]; exact (blk_set HG1.out 0 _).trans (by simp [badC]), (HK.out.mono (by simp)).set (.inl (by simp)) _⟩
    | true =>
      by_cases hb : 70368744177664 < m
      · have HE : Hid ((mulX a n) = none) := hid (by rw [← HX.out]; exact exOf_over (by have := HM.out; omega))
        go_wp2
        go_ret
        exact ⟨by rw [HE.out]; rfl, by rw [HE.out]; exact (blk_set HG1.out 0 _).trans (by simp [badC]), (HK.out.mono (by simp)).set (.inl (by simp)) _⟩
      · have hm0 : 0 ≤ m := by have := HM.out; omega
        have hm1 : m ≤ 70368744177664 := by omega
        clear hb
        cases sb with
        | true =>
          have HE : Hid ((mulX a n) = some (-m)) := hid (by rw [← HX.out, HM.out]; exact exOf_neg (by have := HM.out; omega))
          go_wp2
          go_ret
          exact ⟨by rw [HE.out]; rfl, by rw [HE.out]; exact HG1.out, HK.out.mono (by simp)⟩
        | false =>
          have HE : Hid ((mulX a n) = some m) := hid (by rw [← HX.out, HM.out]; exact exOf_pos (by have := HM.out; omega))
          go_wp2
          go_ret
          exact ⟨by rw [HE.out]; rfl, by rw [HE.out]; exact HG1.out, HK.out.mono (by simp)⟩

set_option maxHeartbeats 1600000 in
theorem told_ratio (g : Nat) (bad : Bool) (a num den : Int) (w : World) (hg : IsC w g bad) :
    Calls Try.prog 24 #[.pointer (some ⟨g, 0, none⟩), .func (.func 25) #[.agg #[.int .i64 a, .int .i64 num, .int .i64 den]] #[]] w fun e w' => ToldPost g bad (scaleX a num den) w e w' := by
  have c0 := blk_cell hg 0
  simp only [List.getElem?_toArray, List.getElem?_cons_zero] at c0
  cases bad with
  | true =>
    have HG := hid hg
    clear hg
    go_enter Try.func24, Try.ntmps24
    go_wp2
    go_ret
    exact ⟨rfl, HG.out, Keep.refl _ _⟩
  | false =>
    have CX := nearest_any a num den w
    have HCX := hid CX
    have HG := hid hg
    clear hg CX
    go_enter Try.func24, Try.ntmps24
    go_wp2_with fail
    refine (HCX.out).mono ?_
    rintro e w1 ⟨sb, nn, ok, rfl, hn, hx, K⟩
    have G1 := HG.out.keep K (by simp)
    have c1 := blk_cell G1 0
    have f1 := blk_free G1 0
    simp only [List.getElem?_toArray, List.getElem?_cons_zero] at c1
    have HX := hid hx
    have HG1 := hid G1
    have HK := hid K
    obtain ⟨m, hm⟩ : ∃ m : Int, m = (nn : Int) := ⟨_, rfl⟩
    rw [← hm]
    have HM := hid hm
    have Hn := hid hn
    clear hx hn G1 K hm c0 HG HCX
    cases ok with
    | false =>
      have HE : Hid ((scaleX a num den) = none) := hid (by rw [← HX.out]; exact exOf_no _ _)
      go_wp2
      go_ret
      exact ⟨by rw [HE.out]; rfl, by rw [HE.out]; exact (blk_set HG1.out 0 _).trans (by simp [badC]), (HK.out.mono (by simp)).set (.inl (by simp)) _⟩
    | true =>
      by_cases hb : 70368744177664 < m
      · have HE : Hid ((scaleX a num den) = none) := hid (by rw [← HX.out]; exact exOf_over (by have := HM.out; omega))
        go_wp2
        go_ret
        exact ⟨by rw [HE.out]; rfl, by rw [HE.out]; exact (blk_set HG1.out 0 _).trans (by simp [badC]), (HK.out.mono (by simp)).set (.inl (by simp)) _⟩
      · have hm0 : 0 ≤ m := by have := HM.out; omega
        have hm1 : m ≤ 70368744177664 := by omega
        clear hb
        cases sb with
        | true =>
          have HE : Hid ((scaleX a num den) = some (-m)) := hid (by rw [← HX.out, HM.out]; exact exOf_neg (by have := HM.out; omega))
          go_wp2
          go_ret
          exact ⟨by rw [HE.out]; rfl, by rw [HE.out]; exact HG1.out, HK.out.mono (by simp)⟩
        | false =>
          have HE : Hid ((scaleX a num den) = some m) := hid (by rw [← HX.out, HM.out]; exact exOf_pos (by have := HM.out; omega))
          go_wp2
          go_ret
          exact ⟨by rw [HE.out]; rfl, by rw [HE.out]; exact HG1.out, HK.out.mono (by simp)⟩

theorem calc_new (w : World) : Calls Try.prog 12 #[] w fun e w' => e = .returned (.pointer (some ⟨w.heap.size, 0, none⟩)) ∧ IsC w' w.heap.size false ∧ Keep [] w w' := by
  go_enter Try.func12, Try.ntmps12
  go_wp2
  go_ret
  exact ⟨rfl, blk_new _ _, (Keep.refl _ _).alloc _⟩

theorem calc_wrong (g : Nat) (bad : Bool) (w : World) (hg : IsC w g bad) : Calls Try.prog 14 #[.pointer (some ⟨g, 0, none⟩)] w fun e w' => e = .returned (.bool bad) ∧ w = w' := by
  have c0 := blk_cell hg 0
  simp only [List.getElem?_toArray, List.getElem?_cons_zero] at c0
  have HG := hid hg
  clear hg
  go_enter Try.func14, Try.ntmps14
  go_wp2
  go_ret
  exact ⟨rfl, rfl⟩

theorem calc_add (g : Nat) (bad : Bool) (a b : Int) (w : World) (hg : IsC w g bad) : Calls Try.prog 19 #[.pointer (some ⟨g, 0, none⟩), .int .i64 a, .int .i64 b] w fun e w' => ToldPost g bad (sumX a b) w e w' := by
  have HC := hid (told_sum g bad a b w hg)
  clear hg
  have hmk := makeFunc_run
  go_enter Try.func19, Try.ntmps19
  go_wp2_with fail
  refine HC.out.mono ?_
  rintro e w1 ⟨rfl, G, K⟩
  go_wp2
  go_ret
  exact ⟨rfl, G, K⟩

theorem calc_neg (g : Nat) (bad : Bool) (a : Int) (w : World) (hg : IsC w g bad) (a0 : -9223372036854775808 ≤ a) (a1 : a ≤ 9223372036854775807) : Calls Try.prog 28 #[.pointer (some ⟨g, 0, none⟩), .int .i64 a] w fun e w' => ToldPost g bad (mulX a (-1)) w e w' := by
  have HC := hid (told_product g bad a (-1) w hg a0 a1 (by omega) (by omega))
  clear hg a0 a1
  have hmk := makeFunc_run
  go_enter Try.func28, Try.ntmps28
  go_wp2_with fail
  refine HC.out.mono ?_
  rintro e w1 ⟨rfl, G, K⟩
  go_wp2
  go_ret
  exact ⟨rfl, G, K⟩

theorem calc_times (g : Nat) (bad : Bool) (a n : Int) (w : World) (hg : IsC w g bad) (a0 : -9223372036854775808 ≤ a) (a1 : a ≤ 9223372036854775807) (n0 : -9223372036854775808 ≤ n) (n1 : n ≤ 9223372036854775807) : Calls Try.prog 18 #[.pointer (some ⟨g, 0, none⟩), .int .i64 a, .int .i64 n] w fun e w' => ToldPost g bad (mulX a n) w e w' := by
  have HC := hid (told_product g bad a n w hg a0 a1 n0 n1)
  clear hg a0 a1 n0 n1
  have hmk := makeFunc_run
  go_enter Try.func18, Try.ntmps18
  go_wp2_with fail
  refine HC.out.mono ?_
  rintro e w1 ⟨rfl, G, K⟩
  go_wp2
  go_ret
  exact ⟨rfl, G, K⟩

theorem calc_scale (g : Nat) (bad : Bool) (a num den : Int) (w : World) (hg : IsC w g bad) : Calls Try.prog 13 #[.pointer (some ⟨g, 0, none⟩), .int .i64 a, .int .i64 num, .int .i64 den] w fun e w' => ToldPost g bad (scaleX a num den) w e w' := by
  have HC := hid (told_ratio g bad a num den w hg)
  clear hg
  have hmk := makeFunc_run
  go_enter Try.func13, Try.ntmps13
  go_wp2_with fail
  refine HC.out.mono ?_
  rintro e w1 ⟨rfl, G, K⟩
  go_wp2
  go_ret
  exact ⟨rfl, G, K⟩

/-- a less b. -/
def subX (a b : Int) : Option Int := if lenB a = true ∧ lenB b = true then lim (a - b) else none

theorem subX_eq {a b : Int} (hb : lenB b = true) : sumX a (-b) = subX a b := by
  have h := lenB_yes hb
  have h2 : lenB (-b) = true := by unfold lenB; exact decide_eq_true (by omega)
  unfold sumX subX
  rw [h2, hb]
  rfl
theorem subX_no {a b : Int} (hb : lenB b = false) : sumX 70368744177665 70368744177665 = subX a b := by
  unfold sumX subX
  rw [if_neg (by intro h; have := lenB_yes h.1; omega), if_neg (by rw [hb]; simp)]

theorem calc_sub (g : Nat) (bad : Bool) (a b : Int) (w : World) (hg : IsC w g bad) : Calls Try.prog 17 #[.pointer (some ⟨g, 0, none⟩), .int .i64 a, .int .i64 b] w fun e w' => ToldPost g bad (subX a b) w e w' := by
  cases hb : lenB b with
  | true =>
    have hl := lenB_yes hb
    rw [← subX_eq hb]
    have HC := hid (told_sum g bad a (-b) w hg)
    have Hb := hid hb
    obtain ⟨b0, b1⟩ := hl
    clear hg hb
    have hmk := makeFunc_run
    go_enter Try.func17, Try.ntmps17
    go_wp2_with fail
    refine (length_yes _ Hb.out).mono ?_
    rintro e w1 ⟨rfl, rfl⟩
    go_wp2_with fail
    refine HC.out.mono ?_
    rintro e w1 ⟨rfl, G, K⟩
    go_wp2
    go_ret
    exact ⟨rfl, G, K⟩
  | false =>
    rw [← subX_no (a := a) hb]
    have HC := hid (told_sum g bad 70368744177665 70368744177665 w hg)
    have Hb := hid hb
    clear hg hb
    have hmk := makeFunc_run
    go_enter Try.func17, Try.ntmps17
    go_wp2_with fail
    refine (length_no _ Hb.out).mono ?_
    rintro e w1 ⟨rfl, rfl⟩
    go_wp2_with fail
    refine HC.out.mono ?_
    rintro e w1 ⟨rfl, G, K⟩
    go_wp2
    go_ret
    exact ⟨rfl, G, K⟩

end Go.Proofs.Ytldckefnelgdgaa
