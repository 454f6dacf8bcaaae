/- PageHolds' argument, opened. -/
import Derived.Test.YtgelccenbceeoaaWalkPageHolds
namespace Go.Proofs.Ytgelccenbceeoaa
open Go.RowKit
set_option linter.unusedVariables false

set_option maxRecDepth 100000 in
theorem walkPageHolds {H : Type} {enc : TypeId × Value → H} {W : World} {base : Nat} {v0 : Value} {d0 : DataW H} {p0 : List MemPlace} (ok0 : Value.okWide Try.prog W .any base 49 v0) (h0 : DataW.Trod enc Try.prog W 0 (fun _ => true) true 49 v0 d0 p0)
    (z0 : ∀ n ∈ d0.weights Try.prog 49, n ≤ reachBytes) (h : Int) (wh : (Lit.int .i64 h).wf = true) (w : World) (hw : w = W) :
    Calls Try.prog 13 #[v0, .int .i64 h] w fun e w' => e = .returned (.bool true) ∧ Below w.heap.size w w' := by
  subst hw
  obtain ⟨A, c, l, rfl, h1, h2, hr, _, hof⟩ := open_slabs ok0 h0
  exact walkHolds A c l h w hr h1 (by omega) hof

end Go.Proofs.Ytgelccenbceeoaa
