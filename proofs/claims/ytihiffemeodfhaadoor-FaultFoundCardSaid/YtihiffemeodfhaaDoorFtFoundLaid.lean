/- Fault: FaultFound, as the row wants it. -/
import Derived.Test.YtihiffemeodfhaaDoorFtFound
import Derived.Test.YtihiffemeodfhaaDoorFtLaid
namespace Go.Proofs.YtihiffemeodfhaaDoor
open Go.RowKit
set_option linter.unusedVariables false
theorem int_of {r : Int} (h : (Lit.int .i64 r).wf = true) : -9223372036854775808 ≤ r ∧ r ≤ 9223372036854775807 := by
  simp [Lit.wf, IntKind.min, IntKind.max, IntKind.signed, IntKind.bits] at h
  omega
theorem walkFaultFound (k : Int) (_wk : (Lit.int .i64 k).wf = true) (a : Int) (_wa : (Lit.int .i64 a).wf = true) (d : Int) (wd : (Lit.int .i64 d).wf = true) (l : Int) (wl : (Lit.int .i64 l).wf = true) (s : Int) (_ws : (Lit.int .i64 s).wf = true) (w : World) (G : (∃ S, Cls six S w) ∧ Hnd w) :
    Calls Tryd.prog 5 #[.int .i64 k, .int .i64 a, .int .i64 d, .int .i64 l, .int .i64 s] w fun e w' => e = .returned (.bool true) ∧ Below w.heap.size w w' := by
  obtain ⟨⟨S, C⟩, H⟩ := G
  exact walkFound k a d l s (int_of wd) (int_of wl) S w C H
end Go.Proofs.YtihiffemeodfhaaDoor
