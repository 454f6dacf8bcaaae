/- The meter's exported functions, by contracts over plain records. -/
import Derived.Test.YthcfgechifogeaaCharge
namespace Go.Proofs.Ythcfgechifogeaa
open Go.RowKit
set_option linter.unusedSimpArgs false
set_option linter.unusedVariables false

def MS.ok (m : MS) : Prop := 0 ≤ m.sn ∧ m.sn ≤ m.sb ∧ m.sb ≤ 9223372036854775807 ∧ 0 ≤ m.sp ∧ m.sp ≤ m.sb ∧ 0 ≤ m.cn ∧ m.cn ≤ m.cp ∧ m.cp ≤ m.cb ∧ m.cb ≤ 9223372036854775807

def MS.new (s c : Int) : MS := ⟨0, 0, s, 0, 0, c, 0⟩
def MS.step (m : MS) (n : Int) : Bool × MS := if n < 0 ∨ m.rf ≠ 0 then (false, m) else if m.sb - m.sn < n then (false, { m.addS (m.sb - m.sn) with rf := 20 }) else (true, m.addS n)
def MS.hold (m : MS) (n : Int) : Bool × MS := if n < 0 ∨ m.rf ≠ 0 then (false, m) else if m.cb - m.cn < n then (false, { m.addC (m.cb - m.cn) with rf := 21 }) else (true, m.addC n)
def MS.drop (m : MS) (n : Int) : Bool × MS := if n < 0 ∨ m.cn < n then (false, m) else (true, { m with cn := m.cn - n })

theorem MS.ok_new {s c : Int} (hs : 0 ≤ s) (hs' : s ≤ 9223372036854775807) (hc : 0 ≤ c) (hc' : c ≤ 9223372036854775807) : (MS.new s c).ok := by
  unfold MS.ok MS.new; simp only; omega
theorem MS.ok_step {m : MS} (h : m.ok) (n : Int) : (m.step n).2.ok := by
  unfold MS.ok at h
  unfold MS.step
  repeat' split
  all_goals (simp only [MS.addS, MS.ok]; try split)
  all_goals omega
theorem MS.ok_hold {m : MS} (h : m.ok) (n : Int) : (m.hold n).2.ok := by
  unfold MS.ok at h
  unfold MS.hold
  repeat' split
  all_goals (simp only [MS.addC, MS.ok]; try split)
  all_goals omega
theorem MS.ok_drop {m : MS} (h : m.ok) (n : Int) : (m.drop n).2.ok := by
  unfold MS.ok at h
  unfold MS.drop
  split
  all_goals (simp only [MS.ok]; omega)

set_option maxHeartbeats 400000 in
theorem new_bad (s c : Int) (w : World) (h : s < 0 ∨ c < 0) : Calls Try.prog 31 #[.int .i64 s, .int .i64 c] w fun e w' => e = .returned (.tuple #[.pointer none, .int .i64 1]) ∧ w = w' := by
  by_cases h1 : s < 0
  · go_enter Try.func31, Try.ntmps31
    go_wp2
    go_ret2
    exact ⟨rfl, rfl⟩
  · have h2 : c < 0 := h.resolve_left h1
    go_enter Try.func31, Try.ntmps31
    go_wp2
    go_ret2
    exact ⟨rfl, rfl⟩

set_option maxHeartbeats 400000 in
theorem new_good (s c : Int) (w : World) (h1 : 0 ≤ s) (h2 : 0 ≤ c) : Calls Try.prog 31 #[.int .i64 s, .int .i64 c] w
    fun e w' => e = .returned (.tuple #[.pointer (some ⟨w.heap.size, 0, none⟩), .int .i64 0]) ∧ IsM w' w.heap.size (MS.new s c) ∧ Keep [] w w' ∧ w'.heap.size = w.heap.size + 1 := by
  go_enter Try.func31, Try.ntmps31
  go_wp2
  go_ret2
  exact ⟨rfl, blk_new _ _, (Keep.refl _ _).alloc _, by simp⟩

theorem step_any (g : Nat) (m : MS) (n : Int) (w : World) (hg : IsM w g m) (ok : m.ok) : Calls Try.prog 87 #[.pointer (some ⟨g, 0, none⟩), .int .i64 n] w
    fun e w' => e = .returned (.bool (m.step n).1) ∧ IsM w' g (m.step n).2 ∧ Keep [g] w w' := by
  have Ho := hid ok
  unfold MS.ok at ok
  by_cases he : n < 0 ∨ m.rf ≠ 0
  · have E : m.step n = (false, m) := by unfold MS.step; rw [if_pos he]
    rw [E]
    clear E
    go_enter Try.func87, Try.ntmps87
    go_wp2_with fail
    refine (charge_S_early g m n 20 _ hg he).mono ?_
    rintro e w1 ⟨rfl, hK⟩
    go_wp2
    go_ret
    exact ⟨rfl, hK.blk hg (by simp), hK.mono (by simp)⟩
  · have hr : m.rf = 0 := Classical.not_not.1 (fun h => he (.inr h))
    by_cases ho : m.sb - m.sn < n
    · have E : m.step n = (false, { m.addS (m.sb - m.sn) with rf := 20 }) := by unfold MS.step; rw [if_neg he, if_pos ho]
      rw [E]
      clear E
      have Hr := hid hr
      clear hr
      go_enter Try.func87, Try.ntmps87
      go_wp2_with fail
      refine (charge_S_over g m n 20 _ hg Hr.out ho (by omega) (by omega) (by omega)).mono ?_
      rintro e w1 ⟨rfl, hM, hK⟩
      go_wp2
      go_ret
      exact ⟨rfl, hM, hK⟩
    · have E : m.step n = (true, m.addS n) := by unfold MS.step; rw [if_neg he, if_neg ho]
      rw [E]
      clear E
      have Hr := hid hr
      clear hr
      have hn : 0 ≤ n := by omega
      go_enter Try.func87, Try.ntmps87
      go_wp2_with fail
      refine (charge_S_fine g m n 20 _ hg hn Hr.out (by omega) (by omega) (by omega)).mono ?_
      rintro e w1 ⟨rfl, hM, hK⟩
      go_wp2
      go_ret
      exact ⟨rfl, hM, hK⟩

theorem hold_any (g : Nat) (m : MS) (n : Int) (w : World) (hg : IsM w g m) (ok : m.ok) : Calls Try.prog 58 #[.pointer (some ⟨g, 0, none⟩), .int .i64 n] w
    fun e w' => e = .returned (.bool (m.hold n).1) ∧ IsM w' g (m.hold n).2 ∧ Keep [g] w w' := by
  have Ho := hid ok
  unfold MS.ok at ok
  by_cases he : n < 0 ∨ m.rf ≠ 0
  · have E : m.hold n = (false, m) := by unfold MS.hold; rw [if_pos he]
    rw [E]
    clear E
    go_enter Try.func58, Try.ntmps58
    go_wp2_with fail
    refine (charge_C_early g m n 21 _ hg he).mono ?_
    rintro e w1 ⟨rfl, hK⟩
    go_wp2
    go_ret
    exact ⟨rfl, hK.blk hg (by simp), hK.mono (by simp)⟩
  · have hr : m.rf = 0 := Classical.not_not.1 (fun h => he (.inr h))
    by_cases ho : m.cb - m.cn < n
    · have E : m.hold n = (false, { m.addC (m.cb - m.cn) with rf := 21 }) := by unfold MS.hold; rw [if_neg he, if_pos ho]
      rw [E]
      clear E
      have Hr := hid hr
      clear hr
      go_enter Try.func58, Try.ntmps58
      go_wp2_with fail
      refine (charge_C_over g m n 21 _ hg Hr.out ho (by omega) (by omega) (by omega)).mono ?_
      rintro e w1 ⟨rfl, hM, hK⟩
      go_wp2
      go_ret
      exact ⟨rfl, hM, hK⟩
    · have E : m.hold n = (true, m.addC n) := by unfold MS.hold; rw [if_neg he, if_neg ho]
      rw [E]
      clear E
      have Hr := hid hr
      clear hr
      have hn : 0 ≤ n := by omega
      go_enter Try.func58, Try.ntmps58
      go_wp2_with fail
      refine (charge_C_fine g m n 21 _ hg hn Hr.out (by omega) (by omega) (by omega)).mono ?_
      rintro e w1 ⟨rfl, hM, hK⟩
      go_wp2
      go_ret
      exact ⟨rfl, hM, hK⟩

theorem steps_any (g : Nat) (m : MS) (w : World) (hg : IsM w g m) : Calls Try.prog 49 #[.pointer (some ⟨g, 0, none⟩)] w
    fun e w' => e = .returned (.int .i64 m.sn) ∧ w = w' := by
  have c0 := blk_cell hg 0
  have c3 := blk_cell hg 3
  have c4 := blk_cell hg 4
  have c6 := blk_cell hg 6
  simp only [List.getElem?_toArray, List.getElem?_cons_zero, List.getElem?_cons_succ] at c0 c3 c4 c6
  go_enter Try.func49, Try.ntmps49
  go_wp2
  go_ret
  exact ⟨rfl, rfl⟩

theorem held_any (g : Nat) (m : MS) (w : World) (hg : IsM w g m) : Calls Try.prog 50 #[.pointer (some ⟨g, 0, none⟩)] w
    fun e w' => e = .returned (.int .i64 m.cn) ∧ w = w' := by
  have c0 := blk_cell hg 0
  have c3 := blk_cell hg 3
  have c4 := blk_cell hg 4
  have c6 := blk_cell hg 6
  simp only [List.getElem?_toArray, List.getElem?_cons_zero, List.getElem?_cons_succ] at c0 c3 c4 c6
  go_enter Try.func50, Try.ntmps50
  go_wp2
  go_ret
  exact ⟨rfl, rfl⟩

theorem peak_any (g : Nat) (m : MS) (w : World) (hg : IsM w g m) : Calls Try.prog 70 #[.pointer (some ⟨g, 0, none⟩)] w
    fun e w' => e = .returned (.int .i64 m.cp) ∧ w = w' := by
  have c0 := blk_cell hg 0
  have c3 := blk_cell hg 3
  have c4 := blk_cell hg 4
  have c6 := blk_cell hg 6
  simp only [List.getElem?_toArray, List.getElem?_cons_zero, List.getElem?_cons_succ] at c0 c3 c4 c6
  go_enter Try.func70, Try.ntmps70
  go_wp2
  go_ret
  exact ⟨rfl, rfl⟩

theorem refused_any (g : Nat) (m : MS) (w : World) (hg : IsM w g m) : Calls Try.prog 59 #[.pointer (some ⟨g, 0, none⟩)] w
    fun e w' => e = .returned (.int .i64 m.rf) ∧ w = w' := by
  have c0 := blk_cell hg 0
  have c3 := blk_cell hg 3
  have c4 := blk_cell hg 4
  have c6 := blk_cell hg 6
  simp only [List.getElem?_toArray, List.getElem?_cons_zero, List.getElem?_cons_succ] at c0 c3 c4 c6
  go_enter Try.func59, Try.ntmps59
  go_wp2
  go_ret
  exact ⟨rfl, rfl⟩



end Go.Proofs.Ythcfgechifogeaa
