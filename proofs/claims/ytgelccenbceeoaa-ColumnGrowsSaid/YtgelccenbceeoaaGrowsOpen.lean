/- ColumnGrows' arguments, opened. -/
import Derived.Test.YtgelccenbceeoaaWalkColumnGrows
import Derived.Test.YtgelccenbceeoaaLaidOpen
namespace Go.Proofs.Ytgelccenbceeoaa
open Go.RowKit
set_option linter.unusedVariables false

set_option maxRecDepth 100000 in
theorem walkColumnGrows {H : Type} {enc : TypeId × Value → H} {W : World} {base : Nat} {v0 v1 : Value} {d0 d1 : DataW H} {p0 p1 : List MemPlace} (ok0 : Value.okWide Try.prog W .any base 55 v0) (h0 : DataW.Trod enc Try.prog W 0 (fun _ => true) true 55 v0 d0 p0)
    (z0 : ∀ n ∈ d0.weights Try.prog 55, n ≤ reachBytes) (ok1 : Value.okWide Try.prog W .any base 56 v1) (h1 : DataW.Trod enc Try.prog W 0 (fun _ => true) true 56 v1 d1 p1)
    (z1 : ∀ n ∈ d1.weights Try.prog 56, n ≤ reachBytes) (w : World) (hw : w = W) :
    Calls Try.prog 9 #[v0, v1] w fun e w' => e = .returned (.bool true) ∧ Below w.heap.size w w' := by
  subst hw
  obtain ⟨A, B, c, d, ps, ls, rfl, rfl, L⟩ := open_laid ok0 h0 ok1 h1
  exact walkGrows A B c d ps ls w L

end Go.Proofs.Ytgelccenbceeoaa
