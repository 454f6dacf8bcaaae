/-
  DERIVED. GIVEN WITH THE SEED: THE CARDS: each row of YtihiffemeodfhaaDoorRows.lean that lists a variable, with what it lists TIED to the program's text (the seventh form; the later family's looks); each row that meets fmt, with fmt's text TOLD by the authors' own Lean function (tested against real Go, not proved from fmt's source: count such statements apart). THE CARD IS WHAT COUNTS. Prove the row's statement (the work); the ties are given (YtihiffemeodfhaaDoorTie.lean); close each card by the builder's one call (the guide's Derived/Test/ToyasCard.lean, 'card_holds'). Laid BY PROGRAM, IN A SANDBOX (cutbox-door.mjs). By AI agents, Wed Nov 11 2026. No macro, syntax, notation, axiom, sorry.
-/
import Derived.Test.YtihiffemeodfhaaDoorRows
import GoSem.ClaimSeven
namespace Go.Proofs.YtihiffemeodfhaaDoor
namespace Rows

/-- THE TIED CARD OF 'platenlaw03.FaultNames'. -/
def faultNamesCard : Claim7 := { stood := { row := faultNamesRow, standIns := [], harness := (true, "9e128c4571db983056633832c35d8ceb7bfb02323087f34a7706c42e89210147"), looks := true }, kinds := [], alts := [], laidByText := true, laidKinds := [.handle, .sentinel, .sentinel, .sentinel, .sentinel, .sentinel, .sentinel], laidTests := true, laidLooks := .later }
def FaultNamesCardSaid : Prop := Claim7.holds Tryd.pinned (.plain (OpenSpec.ofChange faultNamesSpec)) faultNamesCard

/-- THE TIED CARD OF 'platenlaw03.FaultErrors'. -/
def faultErrorsCard : Claim7 := { stood := { row := faultErrorsRow, standIns := [], harness := (true, "9e128c4571db983056633832c35d8ceb7bfb02323087f34a7706c42e89210147"), looks := true }, kinds := [], alts := [], laidByText := true, laidKinds := [.handle, .sentinel, .sentinel, .sentinel, .sentinel, .sentinel, .sentinel], laidTests := true, laidLooks := .later }
def FaultErrorsCardSaid : Prop := Claim7.holds Tryd.pinned (.plain (OpenSpec.ofChange faultErrorsSpec)) faultErrorsCard

/-- THE TIED CARD OF 'platenlaw03.FaultFound'. -/
def faultFoundCard : Claim7 := { stood := { row := faultFoundRow, standIns := [], harness := (true, "9e128c4571db983056633832c35d8ceb7bfb02323087f34a7706c42e89210147"), looks := true }, kinds := [], alts := [], laidByText := true, laidKinds := [.handle, .sentinel, .sentinel, .sentinel, .sentinel, .sentinel, .sentinel], laidTests := true, laidLooks := .later }
def FaultFoundCardSaid : Prop := Claim7.holds Tryd.pinned (.plain (OpenSpec.ofChange faultFoundSpec)) faultFoundCard

/-- THE TIED CARD OF 'platenlaw03.FaultNumbers'. -/
def faultNumbersCard : Claim7 := { stood := { row := faultNumbersRow, standIns := [], harness := (true, "9e128c4571db983056633832c35d8ceb7bfb02323087f34a7706c42e89210147"), looks := true }, kinds := [], alts := [], laidByText := true, laidKinds := [.handle, .sentinel, .sentinel], laidTests := true, laidLooks := .later }
def FaultNumbersCardSaid : Prop := Claim7.holds Tryd.pinned (.plain (OpenSpec.ofChange faultNumbersSpec)) faultNumbersCard

/-- THE SECOND FORM's CARD OF 'platenlaw03.FaultNames'. -/
def faultNamesUptoCard : Claim7 := { stood := { row := faultNamesUptoRow, standIns := [], harness := (true, "9e128c4571db983056633832c35d8ceb7bfb02323087f34a7706c42e89210147"), looks := true }, kinds := [], alts := [], laidByText := true, laidKinds := [.handle, .sentinel, .sentinel, .sentinel, .sentinel, .sentinel, .sentinel], laidTests := true, laidLooks := .later }
def FaultNamesUptoCardSaid : Prop := Claim7.holds Tryd.pinned (.plain (OpenSpec.upto faultNamesSpec)) faultNamesUptoCard

/-- THE SECOND FORM's CARD OF 'platenlaw03.FaultErrors'. -/
def faultErrorsUptoCard : Claim7 := { stood := { row := faultErrorsUptoRow, standIns := [], harness := (true, "9e128c4571db983056633832c35d8ceb7bfb02323087f34a7706c42e89210147"), looks := true }, kinds := [], alts := [], laidByText := true, laidKinds := [.handle, .sentinel, .sentinel, .sentinel, .sentinel, .sentinel, .sentinel], laidTests := true, laidLooks := .later }
def FaultErrorsUptoCardSaid : Prop := Claim7.holds Tryd.pinned (.plain (OpenSpec.upto faultErrorsSpec)) faultErrorsUptoCard

/-- THE SECOND FORM's CARD OF 'platenlaw03.FaultFound'. -/
def faultFoundUptoCard : Claim7 := { stood := { row := faultFoundUptoRow, standIns := [], harness := (true, "9e128c4571db983056633832c35d8ceb7bfb02323087f34a7706c42e89210147"), looks := true }, kinds := [], alts := [], laidByText := true, laidKinds := [.handle, .sentinel, .sentinel, .sentinel, .sentinel, .sentinel, .sentinel], laidTests := true, laidLooks := .later }
def FaultFoundUptoCardSaid : Prop := Claim7.holds Tryd.pinned (.plain (OpenSpec.upto faultFoundSpec)) faultFoundUptoCard

/-- THE SECOND FORM's CARD OF 'platenlaw03.FaultNumbers'. -/
def faultNumbersUptoCard : Claim7 := { stood := { row := faultNumbersUptoRow, standIns := [], harness := (true, "9e128c4571db983056633832c35d8ceb7bfb02323087f34a7706c42e89210147"), looks := true }, kinds := [], alts := [], laidByText := true, laidKinds := [.handle, .sentinel, .sentinel], laidTests := true, laidLooks := .later }
def FaultNumbersUptoCardSaid : Prop := Claim7.holds Tryd.pinned (.plain (OpenSpec.upto faultNumbersSpec)) faultNumbersUptoCard
end Rows
end Go.Proofs.YtihiffemeodfhaaDoor
