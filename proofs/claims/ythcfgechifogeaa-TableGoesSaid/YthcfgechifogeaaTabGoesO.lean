/- TableGoes' arguments, opened. -/
import Derived.Test.YthcfgechifogeaaTabGoes
import Derived.Test.YthcfgechifogeaaTabOpen
import Derived.Test.YthcfgechifogeaaIntsOpen
namespace Go.Proofs.Ythcfgechifogeaa
open Go.RowKit Go.ChangeShapes Go.WideShapes Go.Deep
set_option linter.unusedSimpArgs false
set_option linter.unusedVariables false

set_option maxRecDepth 100000 in
theorem walkTableGoes {H : Type} {enc : TypeId × Value → H} {W : World} {base : Nat} {v0 v1 : Value} {d0 d1 : DataW H} {p0 p1 : List MemPlace} (ok0 : Value.okWide Try.prog W .any base 25 v0) (h0 : DataW.Trod enc Try.prog W 0 (fun _ => true) true 25 v0 d0 p0)
    (z0 : ∀ n ∈ d0.weights Try.prog 25, n ≤ reachBytes) (ok1 : Value.okWide Try.prog W .any base 40 v1) (h1 : DataW.Trod enc Try.prog W 0 (fun _ => true) true 40 v1 d1 p1)
    (z1 : ∀ n ∈ d1.weights Try.prog 40, n ≤ reachBytes) (w : World) (hw : w = W) :
    Calls Try.prog 4 #[v0, v1] w fun e w' => e = .returned (.bool true) ∧ Below w.heap.size w w' := by
  subst hw
  obtain ⟨f, rfl, hf⟩ := open_font ok0 h0
  obtain ⟨A, n, c, xs, rfl, rfl, hn, hr, hi, hb⟩ := open_intl Try.underlying40 Try.underlying3 (by kernel_rfl) (by kernel_rfl) ok1 h1 z1
  exact walkGoes f A c xs w hf hr (by omega)

end Go.Proofs.Ythcfgechifogeaa
