/- The walks of among, does and under. -/
import Derived.Test.YtgelccenbceeoaaTightLaw
import Derived.Test.YtgelccenbceeoaaOpen
import Derived.Test.YtgelccenbceeoaaShown02
namespace Go.Proofs.Ytgelccenbceeoaa
open Go.RowKit
set_option linter.unusedSimpArgs false
set_option linter.unusedVariables false

theorem tmod_cases (i n : Int) (hn : 0 < n) : (0 ≤ i.tmod n ∧ i.tmod n = i % n) ∨ (i.tmod n < 0 ∧ i.tmod n + n = i % n ∧ -n < i.tmod n) := by
  have h3 := Int.emod_nonneg i (show n ≠ 0 by omega)
  have h4 := Int.emod_lt_of_pos i hn
  have e := Int.tmod_eq_emod (a := i) (b := n)
  by_cases h : 0 ≤ i ∨ n ∣ i
  · rw [if_pos h] at e
    omega
  · rw [if_neg h] at e
    have h5 : i % n ≠ 0 := fun z => h (.inr (Int.dvd_of_emod_eq_zero z))
    omega

theorem among_any (i n : Int) (w : World) (hn : 0 < n) (hn' : n ≤ 4611686018427387904) : Calls Try.prog 24 #[.int .i64 i, .int .i64 n] w fun e w' => e = .returned (.int .i64 (i % n)) ∧ w = w' := by
  have hz : (n == 0) = false := by simp; omega
  rcases tmod_cases i n hn with ⟨h1, h2⟩ | ⟨h1, h2, h3⟩
  · have h4 : i.tmod n ≤ 9223372036854775807 := by have := Int.emod_lt_of_pos i hn; omega
    have H2 := hid h2
    clear h2
    go_enter Try.func24, Try.ntmps24
    go_wp2
    go_ret
    exact ⟨by rw [← H2.out]; rfl, rfl⟩
  · have H2 := hid h2
    clear h2
    go_enter Try.func24, Try.ntmps24
    go_wp2
    go_ret
    exact ⟨by rw [← H2.out]; rfl, rfl⟩

/-- A script's rows in memory. -/
def Act.row (x : Act) : List Value := [.int .i64 x.k, .int .i64 x.w, .int .i64 x.n]

set_option maxHeartbeats 800000 in
theorem does_any (g : Nat) (m : MS) (x : Act) (w : World) (hg : IsM w g m) (ok : m.ok) : Calls Try.prog 49 #[.pointer (some ⟨g, 0, none⟩), .agg #[.int .i64 x.k, .int .i64 x.w, .int .i64 x.n]] w
    fun e w' => e = .returned (.bool (m.does x).1) ∧ IsM w' g (m.does x).2 ∧ Keep [g] w w' := by
  have hlt := blk_lt hg
  by_cases k0 : x.k % 3 = 0
  · have E : m.does x = m.step (x.n % 1048576) := by unfold MS.does; rw [if_pos k0]
    rw [E]
    have hb : (x.k % 3 == 0) = true := by simp [k0]
    clear E k0
    go_enter Try.func49, Try.ntmps49
    go_wp2_with fail
    refine (among_any x.k 3 _ (by omega) (by omega)).mono ?_
    rintro e w' ⟨rfl, rfl⟩
    go_wp2_with fail
    refine (among_any x.n 1048576 _ (by omega) (by omega)).mono ?_
    rintro e w' ⟨rfl, rfl⟩
    go_wp2_with fail
    refine (step_any g m _ _ (blk_alloc hg _) ok).mono ?_
    rintro e w1 ⟨rfl, hM, hK⟩
    go_wp2
    go_ret
    exact ⟨rfl, hM, ((Keep.refl _ _).alloc _).trans hK⟩
  · have hb : (x.k % 3 == 0) = false := by simp [k0]
    by_cases k1 : x.k % 3 = 1
    · have E : m.does x = m.hold (x.n % 1048576) := by unfold MS.does; rw [if_neg k0, if_pos k1]
      rw [E]
      have hb1 : (x.k % 3 == 1) = true := by simp [k1]
      clear E k0 k1
      go_enter Try.func49, Try.ntmps49
      go_wp2_with fail
      refine (among_any x.k 3 _ (by omega) (by omega)).mono ?_
      rintro e w' ⟨rfl, rfl⟩
      go_wp2_with fail
      refine (among_any x.n 1048576 _ (by omega) (by omega)).mono ?_
      rintro e w' ⟨rfl, rfl⟩
      go_wp2_with fail
      refine (hold_any g m _ _ (blk_alloc hg _) ok).mono ?_
      rintro e w1 ⟨rfl, hM, hK⟩
      go_wp2
      go_ret
      exact ⟨rfl, hM, ((Keep.refl _ _).alloc _).trans hK⟩
    · have hb1 : (x.k % 3 == 1) = false := by simp [k1]
      have E : m.does x = ((m.drop (x.n % 1048576)).1 || ((m.drop (x.n % 1048576)).2.rf == 0), (m.drop (x.n % 1048576)).2) := by unfold MS.does; rw [if_neg k0, if_neg k1]
      rw [E]
      clear E k0 k1
      obtain ⟨b, m2, e2⟩ : ∃ b m2, m.drop (x.n % 1048576) = (b, m2) := ⟨_, _, rfl⟩
      rw [e2]
      have H2 := hid e2
      clear e2
      simp only
      cases b
      all_goals
        go_enter Try.func49, Try.ntmps49
        go_wp2_with fail
        refine (among_any x.k 3 _ (by omega) (by omega)).mono ?_
        rintro e w' ⟨rfl, rfl⟩
        go_wp2_with fail
        refine (among_any x.n 1048576 _ (by omega) (by omega)).mono ?_
        rintro e w' ⟨rfl, rfl⟩
        go_wp2_with fail
        refine (drop_any g m _ _ (blk_alloc hg _) ok).mono ?_
        rintro e w1 ⟨rfl, hM, hK⟩
        rw [H2.out] at hM ⊢
        have K : Keep [g] w w1 := ((Keep.refl _ _).alloc _).trans hK
        clear hK
      · go_wp2_with fail
        refine (refused_any g m2 _ hM).mono ?_
        rintro e w' ⟨rfl, rfl⟩
        go_wp2
        go_ret
        exact ⟨by simp, hM, K⟩
      · go_wp2
        go_ret
        exact ⟨by simp, hM, K⟩

theorem under_bad (s c : Int) (A : Option Addr) (n cap : Nat) (w : World) (h : s < 0 ∨ c < 0) : Calls Try.prog 23 #[.int .i64 s, .int .i64 c, .slice A n cap] w
    fun e w' => e = .returned (.tuple #[.int .i64 (-1), .pointer none]) ∧ w = w' := by
  go_enter Try.func23, Try.ntmps23
  go_wp2_with fail
  refine (new_bad s c _ h).mono ?_
  rintro e w' ⟨rfl, rfl⟩
  go_wp2
  go_ret2
  exact ⟨rfl, rfl⟩

structure UnderRel (xs : List Act) (m0 : MS) (w wr : World) (k : Nat) (m : MS) : Prop where
  le : k ≤ xs.length
  isM : IsM wr w.heap.size m
  ok : m.ok
  keep : Keep [] w wr
  run : m0.run xs = ((m.run (xs.drop k)).1 + k, (m.run (xs.drop k)).2)

set_option maxHeartbeats 1600000 in
theorem under_good (s c : Int) (A : Option Addr) (cap : Nat) (xs : List Act) (w : World) (hs : 0 ≤ s) (hc : 0 ≤ c) (hs' : s ≤ 9223372036854775807) (hc' : c ≤ 9223372036854775807) (hr : Rd Act.row 3 w A xs) (hl : xs.length ≤ 1152921504606846976) :
    Calls Try.prog 23 #[.int .i64 s, .int .i64 c, .slice A xs.length cap] w
    fun e w' => ∃ g : Nat, e = .returned (.tuple #[.int .i64 ((MS.new s c).run xs).1, .pointer (some ⟨g, 0, none⟩)]) ∧ w.heap.size ≤ g ∧ IsM w' g ((MS.new s c).run xs).2 ∧ Keep [] w w' := by
  go_enter Try.func23, Try.ntmps23
  go_wp2_with fail
  refine (new_good s c _ hs hc).mono ?_
  rintro e w1 ⟨rfl, hM1, hK1, hs1⟩
  have ok := MS.ok_new hs hs' hc hc'
  obtain ⟨m0, hm0⟩ : ∃ m0, m0 = MS.new s c := ⟨_, rfl⟩
  rw [← hm0] at hM1 ok
  have H0 := hid hm0
  clear hm0
  have Hs1 := hid hs1
  clear hs1
  go_wp2_with fail
  go_loopw [26] (fun v wr => ∃ (k : Nat) (m : MS), v = .int .i64 k ∧ UnderRel xs m0 w wr k m) (fun v _ => xs.length - (intOf v).toNat)
  case atStart => exact ⟨0, m0, rfl, Nat.zero_le _, hM1, ok, hK1, by simp⟩
  case round =>
    obtain ⟨k, m, rfl, R⟩ := hrel
    have hgl := blk_lt R.isM
    have hkb := R.le
    by_cases hlt : k < xs.length
    · obtain ⟨x, hx⟩ : ∃ x, xs[k]? = some x := ⟨xs[k], List.getElem?_eq_getElem hlt⟩
      have hd : xs.drop k = x :: xs.drop (k + 1) := by rw [List.drop_eq_getElem_cons hlt]; congr 1; rw [List.getElem?_eq_getElem hlt] at hx; exact Option.some.inj hx
      obtain ⟨ad, hA, hc⟩ := hr.old R.keep (by simp) k x hx
      have hc0 := hc 0 _ rfl
      have hc1 := hc 1 _ rfl
      have hc2 := hc 2 _ rfl
      rw [add_at _ _ _ (by omega)] at hc1 hc2
      rw [Nat.add_zero] at hc0
      clear hc
      subst hA
      obtain ⟨b, m2, e2⟩ : ∃ b m2, m.does x = (b, m2) := ⟨_, _, rfl⟩
      have ok2 := MS.ok_does R.ok x
      rw [e2] at ok2
      have hrun := R.run
      rw [hd, MS.run_cons, e2] at hrun
      have Hrun := hid hrun
      have H2 := hid e2
      clear hd hx e2 hrun
      cases b
      · go_wp2_with fail
        refine (does_any w.heap.size m x _ (blk_alloc R.isM _) R.ok).mono ?_
        rintro e w2 ⟨rfl, hM2, hK2⟩
        rw [H2.out] at hM2 ⊢
        have E : Hid (m0.run xs = (k, m2)) := by show m0.run xs = (k, m2); rw [Hrun.out]; simp
        clear Hrun H2
        go_wp2
        go_ret2
        exact ⟨w.heap.size, by rw [← H0.out, E.out]; rfl, Nat.le_refl _, by rw [← H0.out, E.out]; exact hM2, (R.keep.alloc _).then hK2 (by simp)⟩
      · go_wp2_with fail
        refine (does_any w.heap.size m x _ (blk_alloc R.isM _) R.ok).mono ?_
        rintro e w2 ⟨rfl, hM2, hK2⟩
        rw [H2.out] at hM2 ⊢
        have R2 : UnderRel xs m0 w w2 (k + 1) m2 := ⟨hlt, hM2, ok2, (R.keep.alloc _).then hK2 (by simp), by rw [Hrun.out]; simp; omega⟩
        clear Hrun H2 hM2 hK2
        go_wp2
        go_roundw
        case rel => exact ⟨k + 1, m2, by go_num, R2⟩
        case measure => simp [intOf]; omega
    · have hrun := R.run
      rw [List.drop_eq_nil_of_le (by omega)] at hrun
      obtain rfl : k = xs.length := by omega
      have E : Hid (m0.run xs = (xs.length, m)) := by show m0.run xs = (xs.length, m); rw [hrun]; simp [MS.run]
      clear hrun
      go_wp2
      go_ret2
      exact ⟨w.heap.size, by rw [← H0.out, E.out]; rfl, Nat.le_refl _, by rw [← H0.out, E.out]; exact R.isM, R.keep⟩

end Go.Proofs.Ytgelccenbceeoaa
