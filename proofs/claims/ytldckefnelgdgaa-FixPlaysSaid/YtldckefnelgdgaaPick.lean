/- pick, by a contract. -/
import Derived.Test.YtldckefnelgdgaaFix
namespace Go.Proofs.Ytldckefnelgdgaa
open Go.RowKit
set_option linter.unusedSimpArgs false
set_option linter.unusedVariables false

/-- Which of n things a raw number speaks of. -/
def pickX (c n : Int) : Int := if c < 0 then (-(c + 1)) % n else c % n

theorem pick_range {c n : Int} (hn : 0 < n) : 0 ≤ pickX c n ∧ pickX c n < n := by
  unfold pickX
  split
  · exact ⟨Int.emod_nonneg _ (by omega), Int.emod_lt_of_pos _ hn⟩
  · exact ⟨Int.emod_nonneg _ (by omega), Int.emod_lt_of_pos _ hn⟩

theorem pick_any (c n : Int) (w : World) (hn : 0 < n) (c0 : -9223372036854775808 ≤ c) : Calls Try.prog 11 #[.int .i64 c, .int .i64 n] w fun e w' => e = .returned (.int .i64 (pickX c n)) ∧ w = w' := by
  by_cases h : c < 0
  · have E : Hid (pickX c n = -((c + 1).tmod n)) := hid (by unfold pickX; rw [if_pos h, ← Int.tmod_eq_emod_of_nonneg (by omega), Int.neg_tmod])
    go_enter Try.func11, Try.ntmps11
    go_wp2
    go_ret
    exact ⟨by rw [E.out]; rfl, rfl⟩
  · have E : Hid (pickX c n = c % n) := hid (by unfold pickX; rw [if_neg h])
    go_enter Try.func11, Try.ntmps11
    go_wp2
    go_ret
    exact ⟨by rw [E.out]; rfl, rfl⟩

end Go.Proofs.Ytldckefnelgdgaa
