/- Runes: the law's same, at two lists that are. -/
import Derived.Test.YtlkoekcoafddpaaDoorRunRef1
namespace Go.Proofs.YtlkoekcoafddpaaDoor
open Go.RowKit
set_option linter.unusedSimpArgs false
set_option linter.unusedVariables false

set_option maxHeartbeats 2000000 in
set_option maxRecDepth 100000 in
theorem same_ints (A A' : Option Addr) (c c' : Nat) (xs : List Int) (w : World) (h1 : Rd intRow 1 w A xs) (h2 : Rd intRow 1 w A' xs) (hn : xs.length ≤ 4611686018427387904) :
    Calls Tryd.prog 12 #[.slice A xs.length c, .slice A' xs.length c'] w fun e w' => e = .returned (.bool true) ∧ Keep [] w w' := by
  go_enter Tryd.func12, Tryd.ntmps12
  go_wp2_with fail
  go_loopw [5] (fun vi wr => ∃ i : Nat, i ≤ xs.length ∧ vi = .int .i64 i ∧ Keep [] w wr) (fun vi _ => xs.length - (intOf vi).toNat)
  case atStart => exact ⟨0, Nat.zero_le _, rfl, Keep.refl _ _⟩
  case round =>
    obtain ⟨i, hi, rfl, K⟩ := hrel
    by_cases hlt : i < xs.length
    · obtain ⟨y, hy⟩ : ∃ y, xs[i]? = some y := ⟨xs[i], List.getElem?_eq_getElem hlt⟩
      obtain ⟨ad, hA, hcs⟩ := h1.old K (by simp) i y hy
      obtain ⟨bd, hB, hds⟩ := h2.old K (by simp) i y hy
      have d0 := hcs 0 _ rfl
      have e0 := hds 0 _ rfl
      rw [Nat.add_zero, Nat.mul_one] at d0 e0
      have H1 := hid h1
      have H2 := hid h2
      have hi2 : (i : Int) < (xs.length : Int) := by omega
      clear hcs hds hy h1 h2
      subst hA hB
      go_upto_region 6 with (fail)
      go_quiet (fail)
      go_wp2
      go_roundw
      case rel => exact ⟨i + 1, hlt, by go_num, K.drewN _⟩
      case measure => simp [intOf]; omega
    · obtain rfl : i = xs.length := by omega
      go_wp2
      go_ret
      exact ⟨rfl, K⟩

end Go.Proofs.YtlkoekcoafddpaaDoor
