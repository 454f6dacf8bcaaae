/-
  DERIVED. GIVEN WITH THE SEED: THE CARDS: each row of YtldckefnelgdgaaDoorRows.lean that lists a variable, with what it lists TIED to the program's text (the seventh form; the later family's looks); each row that meets fmt, with fmt's text TOLD by the authors' own Lean function (tested against real Go, not proved from fmt's source: count such statements apart). THE CARD IS WHAT COUNTS. Prove the row's statement (the work); the ties are given (YtldckefnelgdgaaDoorTie.lean); close each card by the builder's one call (the guide's Derived/Test/ToyasCard.lean, 'card_holds'). Laid BY PROGRAM, IN A SANDBOX (cutbox-door.mjs). By AI agents, Wed Nov 11 2026. No macro, syntax, notation, axiom, sorry.
-/
import Derived.Test.YtldckefnelgdgaaDoorRows
import GoSem.ClaimSeven
namespace Go.Proofs.YtldckefnelgdgaaDoor
namespace Rows

/-- THE TIED CARD OF 'platenlaw08.UnitReads'. -/
def unitReadsCard : Claim7 := { stood := { row := unitReadsRow, standIns := [], harness := (true, "adb856b936b6fc78dc39a6a8b8b1f6520f92ed6b804ccda583b0a3240de9430a"), looks := true }, kinds := [], alts := [], laidByText := true, laidKinds := [.data, .data, .data, .sentinel, .sentinel, .data], laidTests := true, laidLooks := .later }
def UnitReadsCardSaid : Prop := Claim7.holds Tryd.pinned (.plain (OpenSpec.ofChange unitReadsSpec)) unitReadsCard

/-- THE TIED CARD OF 'platenlaw08.UnitPrints'. -/
def unitPrintsCard : Claim7 := { stood := { row := unitPrintsRow, standIns := [], harness := (true, "adb856b936b6fc78dc39a6a8b8b1f6520f92ed6b804ccda583b0a3240de9430a"), looks := true }, kinds := [], alts := [], laidByText := true, laidKinds := [.data, .data, .data, .sentinel, .sentinel, .data], laidTests := true, laidLooks := .later }
def UnitPrintsCardSaid : Prop := Claim7.holds Tryd.pinned (.plain (OpenSpec.ofChange unitPrintsSpec)) unitPrintsCard

/-- THE TIED CARD OF 'platenlaw08.UnitGrows'. -/
def unitGrowsCard : Claim7 := { stood := { row := unitGrowsRow, standIns := [], harness := (true, "adb856b936b6fc78dc39a6a8b8b1f6520f92ed6b804ccda583b0a3240de9430a"), looks := true }, kinds := [], alts := [], laidByText := true, laidKinds := [.data, .data, .data, .sentinel, .sentinel, .data], laidTests := true, laidLooks := .later }
def UnitGrowsCardSaid : Prop := Claim7.holds Tryd.pinned (.plain (OpenSpec.ofChange unitGrowsSpec)) unitGrowsCard

/-- THE TIED CARD OF 'platenlaw08.UnitNames'. -/
def unitNamesCard : Claim7 := { stood := { row := unitNamesRow, standIns := [], harness := (true, "adb856b936b6fc78dc39a6a8b8b1f6520f92ed6b804ccda583b0a3240de9430a"), looks := true }, kinds := [], alts := [], laidByText := true, laidKinds := [.data, .data, .data, .sentinel, .sentinel, .data], laidTests := true, laidLooks := .later }
def UnitNamesCardSaid : Prop := Claim7.holds Tryd.pinned (.plain (OpenSpec.ofChange unitNamesSpec)) unitNamesCard

/-- THE SECOND FORM's CARD OF 'platenlaw08.UnitReads'. -/
def unitReadsUptoCard : Claim7 := { stood := { row := unitReadsUptoRow, standIns := [], harness := (true, "adb856b936b6fc78dc39a6a8b8b1f6520f92ed6b804ccda583b0a3240de9430a"), looks := true }, kinds := [], alts := [], laidByText := true, laidKinds := [.data, .data, .data, .sentinel, .sentinel, .data], laidTests := true, laidLooks := .later }
def UnitReadsUptoCardSaid : Prop := Claim7.holds Tryd.pinned (.plain (OpenSpec.upto unitReadsSpec)) unitReadsUptoCard

/-- THE SECOND FORM's CARD OF 'platenlaw08.UnitPrints'. -/
def unitPrintsUptoCard : Claim7 := { stood := { row := unitPrintsUptoRow, standIns := [], harness := (true, "adb856b936b6fc78dc39a6a8b8b1f6520f92ed6b804ccda583b0a3240de9430a"), looks := true }, kinds := [], alts := [], laidByText := true, laidKinds := [.data, .data, .data, .sentinel, .sentinel, .data], laidTests := true, laidLooks := .later }
def UnitPrintsUptoCardSaid : Prop := Claim7.holds Tryd.pinned (.plain (OpenSpec.upto unitPrintsSpec)) unitPrintsUptoCard

/-- THE SECOND FORM's CARD OF 'platenlaw08.UnitGrows'. -/
def unitGrowsUptoCard : Claim7 := { stood := { row := unitGrowsUptoRow, standIns := [], harness := (true, "adb856b936b6fc78dc39a6a8b8b1f6520f92ed6b804ccda583b0a3240de9430a"), looks := true }, kinds := [], alts := [], laidByText := true, laidKinds := [.data, .data, .data, .sentinel, .sentinel, .data], laidTests := true, laidLooks := .later }
def UnitGrowsUptoCardSaid : Prop := Claim7.holds Tryd.pinned (.plain (OpenSpec.upto unitGrowsSpec)) unitGrowsUptoCard

/-- THE SECOND FORM's CARD OF 'platenlaw08.UnitNames'. -/
def unitNamesUptoCard : Claim7 := { stood := { row := unitNamesUptoRow, standIns := [], harness := (true, "adb856b936b6fc78dc39a6a8b8b1f6520f92ed6b804ccda583b0a3240de9430a"), looks := true }, kinds := [], alts := [], laidByText := true, laidKinds := [.data, .data, .data, .sentinel, .sentinel, .data], laidTests := true, laidLooks := .later }
def UnitNamesUptoCardSaid : Prop := Claim7.holds Tryd.pinned (.plain (OpenSpec.upto unitNamesSpec)) unitNamesUptoCard
end Rows
end Go.Proofs.YtldckefnelgdgaaDoor
