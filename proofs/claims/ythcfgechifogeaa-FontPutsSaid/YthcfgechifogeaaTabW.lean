/- The table's small functions: widths of runes, units; the reference's; the law's bound. -/
import Derived.Test.YthcfgechifogeaaMapF
namespace Go.Proofs.Ythcfgechifogeaa
open Go.RowKit
set_option linter.unusedSimpArgs false
set_option linter.unusedVariables false

theorem ret_int {k : IntKind} {a b : Int} (h : a = b) : Ending.returned (.int k a) = .returned (.int k b) := by rw [h]
theorem ret_bool {a b : Bool} (h : a = b) : Ending.returned (.bool a) = .returned (.bool b) := by rw [h]

/-- How many bytes a rune has; 0: it is none. -/
def wd (r : Int) : Int := if r < 0 ∨ 1114111 < r ∨ (55296 ≤ r ∧ r ≤ 57343) then 0 else if r ≤ 127 then 1 else if r ≤ 2047 then 2 else if r ≤ 65535 then 3 else 4

theorem runeLen_any (r : Int) (w : World) (h : 0 ≤ r) (h1 : r ≤ 1114111) (h2 : r < 55296 ∨ 57343 < r) : Calls Try.prog 72 #[.int .i32 r] w fun e w' => e = .returned (.int .i64 (wd r)) ∧ w = w' := by
  go_enter Try.func72, Try.ntmps72
  go_wp2
  all_goals
    go_ret
    exact ⟨ret_int (by unfold wd; omega), rfl⟩

theorem width_any (r : Int) (w : World) : Calls Try.prog 40 #[.int .i64 r] w fun e w' => e = .returned (.int .i64 (wd r)) ∧ w = w' := by
  by_cases h : r < 0 ∨ 1114111 < r ∨ (55296 ≤ r ∧ r ≤ 57343)
  · go_enter Try.func40, Try.ntmps40
    go_wp2
    all_goals first
      | (exfalso; omega)
      | (go_ret; exact ⟨ret_int (by unfold wd; omega), rfl⟩)
  · have e : IntKind.i32.wrap r = r := IntWalk.i32_in _ (by omega)
    go_enter Try.func40, Try.ntmps40
    go_wp2_with fail
    all_goals first
      | (exfalso; omega)
      | ((with_reducible refine (runeLen_any r _ (by omega) (by omega) (by omega)).mono ?_); rintro e w' ⟨rfl, rfl⟩; go_wp2; go_ret; exact ⟨rfl, rfl⟩)

theorem units_any (n : Int) (w : World) : Calls Try.prog 41 #[.int .i64 n] w fun e w' => e = .returned (.bool (decide (0 ≤ n ∧ n ≤ 16384))) ∧ w = w' := by
  go_enter Try.func41, Try.ntmps41
  go_wp2
  all_goals
    go_ret
    refine ⟨ret_bool ?_, rfl⟩
    simp <;> omega

theorem rwidth_any (r : Int) (w : World) : Calls Try.prog 73 #[.int .i64 r] w fun e w' => e = .returned (.int .i64 (wd r)) ∧ w = w' := by
  go_enter Try.func73, Try.ntmps73
  go_wp2
  all_goals
    go_ret
    exact ⟨ret_int (by unfold wd; omega), rfl⟩

theorem rwithin_any (n : Int) (w : World) : Calls Try.prog 74 #[.int .i64 n] w fun e w' => e = .returned (.bool (decide (0 ≤ n ∧ n ≤ 16384))) ∧ w = w' := by
  go_enter Try.func74, Try.ntmps74
  go_wp2
  all_goals
    go_ret
    refine ⟨ret_bool ?_, rfl⟩
    simp <;> omega

end Go.Proofs.Ythcfgechifogeaa
