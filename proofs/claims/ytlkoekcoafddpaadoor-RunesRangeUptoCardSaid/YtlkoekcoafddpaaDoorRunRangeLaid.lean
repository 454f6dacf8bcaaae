/- Runes: RunesRange, as the row wants it. -/
import Derived.Test.YtlkoekcoafddpaaDoorRunRange
import Derived.Test.YtlkoekcoafddpaaDoorRunLaid
namespace Go.Proofs.YtlkoekcoafddpaaDoor
open Go.RowKit Go.Lib
set_option linter.unusedVariables false
theorem walkRunesRange (s : ByteArray) (_ys : s.size ≤ maxLen) (zs : s.size ≤ 1048576) (w : World) (G : Tabs w) : Calls Tryd.prog 5 #[.string s] w fun e w' => e = .returned (.bool true) ∧ Below w.heap.size w w' := walkRange s (by omega) w G
end Go.Proofs.YtlkoekcoafddpaaDoor
