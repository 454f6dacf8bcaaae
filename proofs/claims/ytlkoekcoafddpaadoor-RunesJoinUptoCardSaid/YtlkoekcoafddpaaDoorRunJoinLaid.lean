/- Runes: RunesJoin, as the row wants it. -/
import Derived.Test.YtlkoekcoafddpaaDoorRunJoin
import Derived.Test.YtlkoekcoafddpaaDoorRunLaid
namespace Go.Proofs.YtlkoekcoafddpaaDoor
open Go.RowKit Go.Lib
set_option linter.unusedVariables false
theorem walkRunesJoin (a : ByteArray) (_ya : a.size ≤ maxLen) (za : a.size ≤ 1048576) (b : ByteArray) (_yb : b.size ≤ maxLen) (zb : b.size ≤ 1048576) (w : World) (G : Tabs w) : Calls Tryd.prog 7 #[.string a, .string b] w fun e w' => e = .returned (.bool true) ∧ Below w.heap.size w w' := walkJoin a b (by omega) (by omega) w G
end Go.Proofs.YtlkoekcoafddpaaDoor
