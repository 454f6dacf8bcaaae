/- Runes: what the listed variables give the walks. -/
import Derived.Test.YtlkoekcoafddpaaDoorRunWalks
import Derived.Test.YtlkoekcoafddpaaDoorTie
import Derived.Lib.LaidU8
import Derived.OpenShut
import Derived.MakeChecks
namespace Go.Proofs.YtlkoekcoafddpaaDoor
open Go.RowKit Go.Lib
set_option linter.unusedSimpArgs false
set_option linter.unusedVariables false
set_option maxRecDepth 100000

def seatLaid : List (String × DataW Unit) := [("unicode/utf8.acceptRanges", Rows.laid_unicode_utf8_acceptRanges), ("unicode/utf8.first", Rows.laid_unicode_utf8_first)]
theorem first_eq : Rows.laid_unicode_utf8_first = firstData := by kernel_rfl
theorem accept_eq : (Rows.laid_unicode_utf8_acceptRanges : DataW Unit) = acceptData := by kernel_rfl
theorem glob_of {W : World} (h0 : laidMetH Tryd.prog seatLaid W) : Tabs W := by
  rw [MakeChecks.laidMetH_plain _ _ _ (by kernel_rfl)] at h0
  exact utf8Tabs_of_reads (ρ := Tryd.lays260_ren) { Tryd.lays260 with } ⟨by kernel_rfl, by kernel_rfl, by kernel_rfl, by kernel_rfl, by kernel_rfl, by kernel_rfl, by kernel_rfl⟩ (first_eq ▸ laidMet.reads h0 (by simp [seatLaid])) (accept_eq ▸ laidMet.reads h0 (by simp [seatLaid]))

theorem walkRunesNumbers (w : World) (G : Tabs w) : Calls Tryd.prog 8 #[] w fun e w' => e = .returned (.bool true) ∧ Below w.heap.size w w' := walkNumbers w G
theorem walkRunesOne (r : Int) (_wr : (Lit.int .i64 r).wf = true) (w : World) (G : Tabs w) : Calls Tryd.prog 4 #[.int .i64 r] w fun e w' => e = .returned (.bool true) ∧ Below w.heap.size w w' := walkOne r w G

end Go.Proofs.YtlkoekcoafddpaaDoor
