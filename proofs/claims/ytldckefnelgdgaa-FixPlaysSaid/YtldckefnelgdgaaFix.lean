/- Layer 1's parts, by contracts: bare, length; what is exact of a sum, a product, a ratio. -/
import Derived.Test.YtldckefnelgdgaaDiv
namespace Go.Proofs.Ytldckefnelgdgaa
open Go.RowKit
set_option linter.unusedSimpArgs false
set_option linter.unusedVariables false

/-- Is a number a length? -/
def lenB (n : Int) : Bool := decide (-70368744177664 ≤ n ∧ n ≤ 70368744177664)
theorem lenB_yes {n : Int} (h : lenB n = true) : -70368744177664 ≤ n ∧ n ≤ 70368744177664 := of_decide_eq_true h
theorem lenB_no {n : Int} (h : lenB n = false) : n < -70368744177664 ∨ 70368744177664 < n := by
  have := of_decide_eq_false h
  omega

theorem length_any (n : Int) (w : World) : Calls Try.prog 20 #[.int .i64 n] w fun e w' => e = .returned (.bool (lenB n)) ∧ w' = w := by
  by_cases h1 : -70368744177664 ≤ n
  · by_cases h2 : n ≤ 70368744177664
    · have E : Hid (lenB n = true) := hid (decide_eq_true ⟨h1, h2⟩)
      go_enter Try.func20, Try.ntmps20
      go_wp2
      go_ret
      exact ⟨by rw [E.out]; rfl, rfl⟩
    · have E : Hid (lenB n = false) := hid (decide_eq_false (fun h => h2 h.2))
      go_enter Try.func20, Try.ntmps20
      go_wp2
      go_ret
      exact ⟨by rw [E.out]; rfl, rfl⟩
  · have E : Hid (lenB n = false) := hid (decide_eq_false (fun h => h1 h.1))
    go_enter Try.func20, Try.ntmps20
    go_wp2
    go_ret
    exact ⟨by rw [E.out]; rfl, rfl⟩

theorem length_same (n : Int) (w : World) : Calls Try.prog 20 #[.int .i64 n] w fun e w' => e = .returned (.bool (lenB n)) ∧ w = w' :=
  (length_any n w).mono fun _ _ ⟨h, k⟩ => ⟨h, k.symm⟩

theorem bare_any (n : Int) (w : World) (h0 : -9223372036854775808 ≤ n) (h1 : n ≤ 9223372036854775807) : Calls Try.prog 35 #[.int .i64 n] w fun e w' => e = .returned (.int .u64 (n.natAbs : Int)) ∧ w' = w := by
  by_cases h : n < 0
  · have E : IntKind.u64.wrap (-IntKind.u64.wrap n) = (n.natAbs : Int) := by
      rw [IntKind.wrap_u64, IntKind.wrap_u64]; omega
    have HE := hid E
    clear E h0 h1
    go_enter Try.func35, Try.ntmps35
    go_wp2
    go_ret
    exact ⟨by rw [← HE.out]; rfl, rfl⟩
  · have E : IntKind.u64.wrap n = (n.natAbs : Int) := by
      rw [IntKind.wrap_u64]; omega
    have HE := hid E
    clear E h0 h1
    go_enter Try.func35, Try.ntmps35
    go_wp2
    go_ret
    exact ⟨by rw [← HE.out]; rfl, rfl⟩

theorem bare_same (n : Int) (w : World) (h0 : -9223372036854775808 ≤ n) (h1 : n ≤ 9223372036854775807) : Calls Try.prog 35 #[.int .i64 n] w fun e w' => e = .returned (.int .u64 (n.natAbs : Int)) ∧ w = w' :=
  (bare_any n w h0 h1).mono fun _ _ ⟨h, k⟩ => ⟨h, k.symm⟩

/-- An exact answer, as its three results. -/
def ExPost (b : Bool) (n : Nat) (ok : Bool) (w : World) (e : Ending) (w' : World) : Prop :=
  e = .returned (.tuple #[.bool b, .int .u64 (n : Int), .bool ok]) ∧ Keep [] w w'

end Go.Proofs.Ytldckefnelgdgaa
