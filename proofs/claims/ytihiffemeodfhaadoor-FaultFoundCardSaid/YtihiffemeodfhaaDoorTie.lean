/-
  DERIVED. GIVEN WITH THE SEED: THE PROGRAM's TIES (one call each: nine closed facts by the kernel) AND EACH ROW's TIE, after the 31st guide's Derived/Test/Toyas{Tie, Card}.lean. No idea stands in it: it is a product of the set-up. Laid BY PROGRAM, IN A SANDBOX (cutbox-door.mjs). By AI agents, Wed Nov 11 2026. No macro, syntax, notation, axiom, sorry.
-/
import Derived.Test.YtihiffemeodfhaaDoorRows
import Derived.LaidByTextLater
import Derived.SevenTiedAt
import Derived.LaidSub
import Derived.LaidOnce
namespace Go.Proofs.YtihiffemeodfhaaDoor
open Go
set_option maxRecDepth 100000
theorem seatTie1 : Tryd.prog.laidByTextLater [("errors.errorType", Rows.laid_errors_errorType), ("platen/fault.ErrBudget", Rows.laid_platen_fault_ErrBudget), ("platen/fault.ErrSyntax", Rows.laid_platen_fault_ErrSyntax), ("platen/fault.ErrText", Rows.laid_platen_fault_ErrText), ("platen/fault.ErrFont", Rows.laid_platen_fault_ErrFont), ("platen/fault.ErrLimit", Rows.laid_platen_fault_ErrLimit), ("platen/fault.ErrRange", Rows.laid_platen_fault_ErrRange)] [.handle, .sentinel, .sentinel, .sentinel, .sentinel, .sentinel, .sentinel] true :=
  Program.laidByTextLater_by_one 145 8 65 (by kernel_rfl) (by kernel_rfl) (by kernel_rfl) (by kernel_rfl) (by kernel_rfl) (by kernel_rfl) (fun _ _ => by kernel_rfl)
theorem noOwnUnsafe : Tryd.pinned.checked.prog.headLifts.contains "ownunsafe" = false := by kernel_rfl
theorem tie : Tryd.prog.laidByTextLater [("errors.errorType", Rows.laid_errors_errorType), ("platen/fault.ErrBudget", Rows.laid_platen_fault_ErrBudget), ("platen/fault.ErrSyntax", Rows.laid_platen_fault_ErrSyntax), ("platen/fault.ErrText", Rows.laid_platen_fault_ErrText), ("platen/fault.ErrFont", Rows.laid_platen_fault_ErrFont), ("platen/fault.ErrLimit", Rows.laid_platen_fault_ErrLimit), ("platen/fault.ErrRange", Rows.laid_platen_fault_ErrRange)] [.handle, .sentinel, .sentinel, .sentinel, .sentinel, .sentinel, .sentinel] true :=
  Program.laidByTextLater.sub seatTie1 ["errors.errorType", "platen/fault.ErrBudget", "platen/fault.ErrSyntax", "platen/fault.ErrText", "platen/fault.ErrFont", "platen/fault.ErrLimit", "platen/fault.ErrRange"] (by kernel_rfl) (by kernel_rfl)
theorem faultNames_row_tie : Rows.faultNamesRow.laidByTextAt .later Tryd.pinned [.handle, .sentinel, .sentinel, .sentinel, .sentinel, .sentinel, .sentinel] true :=
  OpenClaim.laidByTextAt_later rfl rfl tie noOwnUnsafe
theorem faultErrors_row_tie : Rows.faultErrorsRow.laidByTextAt .later Tryd.pinned [.handle, .sentinel, .sentinel, .sentinel, .sentinel, .sentinel, .sentinel] true :=
  OpenClaim.laidByTextAt_later rfl rfl tie noOwnUnsafe
theorem faultFound_row_tie : Rows.faultFoundRow.laidByTextAt .later Tryd.pinned [.handle, .sentinel, .sentinel, .sentinel, .sentinel, .sentinel, .sentinel] true :=
  OpenClaim.laidByTextAt_later rfl rfl tie noOwnUnsafe
theorem tie2 : Tryd.prog.laidByTextLater [("errors.errorType", Rows.laid_errors_errorType), ("platen/fault.ErrSyntax", Rows.laid_platen_fault_ErrSyntax), ("platen/fault.ErrText", Rows.laid_platen_fault_ErrText)] [.handle, .sentinel, .sentinel] true :=
  Program.laidByTextLater.sub seatTie1 ["errors.errorType", "platen/fault.ErrSyntax", "platen/fault.ErrText"] (by kernel_rfl) (by kernel_rfl)
theorem faultNumbers_row_tie : Rows.faultNumbersRow.laidByTextAt .later Tryd.pinned [.handle, .sentinel, .sentinel] true :=
  OpenClaim.laidByTextAt_later rfl rfl tie2 noOwnUnsafe
theorem faultNamesUpto_row_tie : Rows.faultNamesUptoRow.laidByTextAt .later Tryd.pinned [.handle, .sentinel, .sentinel, .sentinel, .sentinel, .sentinel, .sentinel] true :=
  OpenClaim.laidByTextAt_later rfl rfl tie noOwnUnsafe
theorem faultErrorsUpto_row_tie : Rows.faultErrorsUptoRow.laidByTextAt .later Tryd.pinned [.handle, .sentinel, .sentinel, .sentinel, .sentinel, .sentinel, .sentinel] true :=
  OpenClaim.laidByTextAt_later rfl rfl tie noOwnUnsafe
theorem faultFoundUpto_row_tie : Rows.faultFoundUptoRow.laidByTextAt .later Tryd.pinned [.handle, .sentinel, .sentinel, .sentinel, .sentinel, .sentinel, .sentinel] true :=
  OpenClaim.laidByTextAt_later rfl rfl tie noOwnUnsafe
theorem faultNumbersUpto_row_tie : Rows.faultNumbersUptoRow.laidByTextAt .later Tryd.pinned [.handle, .sentinel, .sentinel] true :=
  OpenClaim.laidByTextAt_later rfl rfl tie2 noOwnUnsafe
end Go.Proofs.YtihiffemeodfhaaDoor
