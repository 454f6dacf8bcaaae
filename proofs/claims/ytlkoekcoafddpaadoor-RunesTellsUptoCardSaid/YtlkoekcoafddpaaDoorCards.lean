/-
  DERIVED. GIVEN WITH THE SEED: THE CARDS: each row of YtlkoekcoafddpaaDoorRows.lean that lists a variable, with what it lists TIED to the program's text (the seventh form; the later family's looks); each row that meets fmt, with fmt's text TOLD by the authors' own Lean function (tested against real Go, not proved from fmt's source: count such statements apart). THE CARD IS WHAT COUNTS. Prove the row's statement (the work); the ties are given (YtlkoekcoafddpaaDoorTie.lean); close each card by the builder's one call (the guide's Derived/Test/ToyasCard.lean, 'card_holds'). Laid BY PROGRAM, IN A SANDBOX (cutbox-door.mjs). By AI agents, Wed Nov 11 2026. No macro, syntax, notation, axiom, sorry.
-/
import Derived.Test.YtlkoekcoafddpaaDoorRows
import GoSem.ClaimSeven
namespace Go.Proofs.YtlkoekcoafddpaaDoor
namespace Rows

/-- THE TIED CARD OF 'platenlaw04.RunesTells'. -/
def runesTellsCard : Claim7 := { stood := { row := runesTellsRow, standIns := [], harness := (true, "b09b17af3cc9091463baa12caa713ad80646598fab5b9652683a1fa8b2f59025"), looks := false }, kinds := [], alts := [], laidByText := true, laidKinds := [.data, .pinned], laidTests := true, laidLooks := .later }
def RunesTellsCardSaid : Prop := Claim7.holds Tryd.pinned (.plain (OpenSpec.ofChange runesTellsSpec)) runesTellsCard

/-- THE TIED CARD OF 'platenlaw04.RunesOne'. -/
def runesOneCard : Claim7 := { stood := { row := runesOneRow, standIns := [], harness := (true, "b09b17af3cc9091463baa12caa713ad80646598fab5b9652683a1fa8b2f59025"), looks := false }, kinds := [], alts := [], laidByText := true, laidKinds := [.data, .pinned], laidTests := true, laidLooks := .later }
def RunesOneCardSaid : Prop := Claim7.holds Tryd.pinned (.plain (OpenSpec.ofChange runesOneSpec)) runesOneCard

/-- THE TIED CARD OF 'platenlaw04.RunesRange'. -/
def runesRangeCard : Claim7 := { stood := { row := runesRangeRow, standIns := [], harness := (true, "b09b17af3cc9091463baa12caa713ad80646598fab5b9652683a1fa8b2f59025"), looks := false }, kinds := [], alts := [], laidByText := true, laidKinds := [.data, .pinned], laidTests := true, laidLooks := .later }
def RunesRangeCardSaid : Prop := Claim7.holds Tryd.pinned (.plain (OpenSpec.ofChange runesRangeSpec)) runesRangeCard

/-- THE TIED CARD OF 'platenlaw04.RunesFirst'. -/
def runesFirstCard : Claim7 := { stood := { row := runesFirstRow, standIns := [], harness := (true, "b09b17af3cc9091463baa12caa713ad80646598fab5b9652683a1fa8b2f59025"), looks := false }, kinds := [], alts := [], laidByText := true, laidKinds := [.data, .pinned], laidTests := true, laidLooks := .later }
def RunesFirstCardSaid : Prop := Claim7.holds Tryd.pinned (.plain (OpenSpec.ofChange runesFirstSpec)) runesFirstCard

/-- THE TIED CARD OF 'platenlaw04.RunesJoin'. -/
def runesJoinCard : Claim7 := { stood := { row := runesJoinRow, standIns := [], harness := (true, "b09b17af3cc9091463baa12caa713ad80646598fab5b9652683a1fa8b2f59025"), looks := false }, kinds := [], alts := [], laidByText := true, laidKinds := [.data, .pinned], laidTests := true, laidLooks := .later }
def RunesJoinCardSaid : Prop := Claim7.holds Tryd.pinned (.plain (OpenSpec.ofChange runesJoinSpec)) runesJoinCard

/-- THE TIED CARD OF 'platenlaw04.RunesNumbers'. -/
def runesNumbersCard : Claim7 := { stood := { row := runesNumbersRow, standIns := [], harness := (true, "b09b17af3cc9091463baa12caa713ad80646598fab5b9652683a1fa8b2f59025"), looks := false }, kinds := [], alts := [], laidByText := true, laidKinds := [.data, .pinned], laidTests := true, laidLooks := .later }
def RunesNumbersCardSaid : Prop := Claim7.holds Tryd.pinned (.plain (OpenSpec.ofChange runesNumbersSpec)) runesNumbersCard

/-- THE SECOND FORM's CARD OF 'platenlaw04.RunesTells'. -/
def runesTellsUptoCard : Claim7 := { stood := { row := runesTellsUptoRow, standIns := [], harness := (true, "b09b17af3cc9091463baa12caa713ad80646598fab5b9652683a1fa8b2f59025"), looks := false }, kinds := [], alts := [], laidByText := true, laidKinds := [.data, .pinned], laidTests := true, laidLooks := .later }
def RunesTellsUptoCardSaid : Prop := Claim7.holds Tryd.pinned (.plain (OpenSpec.upto runesTellsSpec)) runesTellsUptoCard

/-- THE SECOND FORM's CARD OF 'platenlaw04.RunesOne'. -/
def runesOneUptoCard : Claim7 := { stood := { row := runesOneUptoRow, standIns := [], harness := (true, "b09b17af3cc9091463baa12caa713ad80646598fab5b9652683a1fa8b2f59025"), looks := false }, kinds := [], alts := [], laidByText := true, laidKinds := [.data, .pinned], laidTests := true, laidLooks := .later }
def RunesOneUptoCardSaid : Prop := Claim7.holds Tryd.pinned (.plain (OpenSpec.upto runesOneSpec)) runesOneUptoCard

/-- THE SECOND FORM's CARD OF 'platenlaw04.RunesRange'. -/
def runesRangeUptoCard : Claim7 := { stood := { row := runesRangeUptoRow, standIns := [], harness := (true, "b09b17af3cc9091463baa12caa713ad80646598fab5b9652683a1fa8b2f59025"), looks := false }, kinds := [], alts := [], laidByText := true, laidKinds := [.data, .pinned], laidTests := true, laidLooks := .later }
def RunesRangeUptoCardSaid : Prop := Claim7.holds Tryd.pinned (.plain (OpenSpec.upto runesRangeSpec)) runesRangeUptoCard

/-- THE SECOND FORM's CARD OF 'platenlaw04.RunesFirst'. -/
def runesFirstUptoCard : Claim7 := { stood := { row := runesFirstUptoRow, standIns := [], harness := (true, "b09b17af3cc9091463baa12caa713ad80646598fab5b9652683a1fa8b2f59025"), looks := false }, kinds := [], alts := [], laidByText := true, laidKinds := [.data, .pinned], laidTests := true, laidLooks := .later }
def RunesFirstUptoCardSaid : Prop := Claim7.holds Tryd.pinned (.plain (OpenSpec.upto runesFirstSpec)) runesFirstUptoCard

/-- THE SECOND FORM's CARD OF 'platenlaw04.RunesJoin'. -/
def runesJoinUptoCard : Claim7 := { stood := { row := runesJoinUptoRow, standIns := [], harness := (true, "b09b17af3cc9091463baa12caa713ad80646598fab5b9652683a1fa8b2f59025"), looks := false }, kinds := [], alts := [], laidByText := true, laidKinds := [.data, .pinned], laidTests := true, laidLooks := .later }
def RunesJoinUptoCardSaid : Prop := Claim7.holds Tryd.pinned (.plain (OpenSpec.upto runesJoinSpec)) runesJoinUptoCard

/-- THE SECOND FORM's CARD OF 'platenlaw04.RunesNumbers'. -/
def runesNumbersUptoCard : Claim7 := { stood := { row := runesNumbersUptoRow, standIns := [], harness := (true, "b09b17af3cc9091463baa12caa713ad80646598fab5b9652683a1fa8b2f59025"), looks := false }, kinds := [], alts := [], laidByText := true, laidKinds := [.data, .pinned], laidTests := true, laidLooks := .later }
def RunesNumbersUptoCardSaid : Prop := Claim7.holds Tryd.pinned (.plain (OpenSpec.upto runesNumbersSpec)) runesNumbersUptoCard
end Rows
end Go.Proofs.YtlkoekcoafddpaaDoor
