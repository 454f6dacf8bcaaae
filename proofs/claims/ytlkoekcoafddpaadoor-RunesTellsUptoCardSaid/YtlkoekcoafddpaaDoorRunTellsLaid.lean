/- Runes: RunesTells, as the row wants it. -/
import Derived.Test.YtlkoekcoafddpaaDoorRunTells
import Derived.Test.YtlkoekcoafddpaaDoorRunLaid
namespace Go.Proofs.YtlkoekcoafddpaaDoor
open Go.RowKit Go.Lib
set_option linter.unusedVariables false
theorem int_of {r : Int} (h : (Lit.int .i64 r).wf = true) : -9223372036854775808 ≤ r ∧ r ≤ 9223372036854775807 := by
  simp [Lit.wf, IntKind.min, IntKind.max, IntKind.signed, IntKind.bits] at h
  omega
theorem walkRunesTells (s : ByteArray) (_ys : s.size ≤ maxLen) (zs : s.size ≤ 1048576) (r : Int) (wr : (Lit.int .i64 r).wf = true) (w : World) (G : Tabs w) : Calls Tryd.prog 3 #[.string s, .int .i64 r] w fun e w' => e = .returned (.bool true) ∧ Below w.heap.size w w' := walkTells s (by omega) r (int_of wr) w G
end Go.Proofs.YtlkoekcoafddpaaDoor
