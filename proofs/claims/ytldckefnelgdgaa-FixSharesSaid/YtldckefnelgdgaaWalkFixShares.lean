/- FixShares' walk. -/
import Derived.Test.YtldckefnelgdgaaShown01
import Derived.Test.YtldckefnelgdgaaRefShare
namespace Go.Proofs.Ytldckefnelgdgaa
open Go.RowKit
set_option linter.unusedSimpArgs false
set_option linter.unusedVariables false

theorem walkFixShares (a : Int) (_wa : (Lit.int .i64 a).wf = true) (b : Int) (_wb : (Lit.int .i64 b).wf = true) (u : Int) (_wu : (Lit.int .i64 u).wf = true) (l : Int) (_wl : (Lit.int .i64 l).wf = true) (w : World) :
    Calls Try.prog 3 #[.int .i64 a, .int .i64 b, .int .i64 u, .int .i64 l] w fun e w' => e = .returned (.bool true) ∧ Below w.heap.size w w' := by
  clear _wa _wb _wu _wl
  go_enter Try.func3, Try.ntmps3
  go_wp2_with fail
  refine (shown01 _).mono ?_
  rintro e w1 ⟨rfl, K1⟩
  go_wp2_with fail
  refine (share_any a b u l _).mono ?_
  rintro e w2 ⟨rfl, n, rfl⟩
  go_wp2_with fail
  refine (rshare_any a b u l _).mono ?_
  rintro e w3 ⟨rfl, rfl⟩
  go_wp2
  go_ret
  exact ⟨rfl, (K1.drewN n).below (Nat.le_refl _) (by simp)⟩

end Go.Proofs.Ytldckefnelgdgaa
