/- Runes: RunesFirst, as the row wants it. -/
import Derived.Test.YtlkoekcoafddpaaDoorRunFirst
import Derived.Test.YtlkoekcoafddpaaDoorRunLaid
namespace Go.Proofs.YtlkoekcoafddpaaDoor
open Go.RowKit Go.Lib
set_option linter.unusedVariables false
theorem walkRunesFirst (s : ByteArray) (_ys : s.size ≤ maxLen) (zs : s.size ≤ 140737488351232) (m : ByteArray) (_ym : m.size ≤ maxLen) (zm : m.size ≤ 140737488351232) (w : World) (G : Tabs w) : Calls Tryd.prog 6 #[.string s, .string m] w fun e w' => e = .returned (.bool true) ∧ Below w.heap.size w w' := walkFirst s m zs zm w G
end Go.Proofs.YtlkoekcoafddpaaDoor
