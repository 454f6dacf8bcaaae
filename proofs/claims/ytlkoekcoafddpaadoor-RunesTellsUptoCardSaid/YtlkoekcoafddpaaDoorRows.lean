/-
  NARROWER THAN 'FOR EVERY INPUT', by the rows' own cells (each row's printed sentence says how): RunesTells: laid · RunesOne: laid · RunesRange: laid · RunesFirst: laid · RunesJoin: laid · RunesNumbers: laid.
  DERIVED. THE GIVEN ROWS OF THIS SEAT. 6 by the template 'for every input the law returns true; each argument reads behind the call as it read before'; 0 by the template 'total and deterministic' (their statements: YtlkoekcoafddpaaDoorTotals.lean).
  GIVEN WITH THE SEED: the statements are not yours to turn. If you find one false, say at which input.
  Laid BY PROGRAM, IN A SANDBOX (cutbox-rows.mjs): the forced cells as the released guide's own fill.sh prints them over the translation 06c1487a695a5864… (all of the seat's roots in one cut). By AI agents, Wed Nov 11 2026. No macro, syntax, notation, axiom, sorry.
-/
import Derived.Test.YtlkoekcoafddpaaDoorChecked
import GoSem.PinnedTables
import GoSem.Claim
import GoSem.ClaimJoined
import GoSem.ClaimMapViews
import Derived.JoinedTies
import Derived.KernelRfl
namespace Go.Proofs.YtlkoekcoafddpaaDoor
/- THE CELL 'sum', in the pinned program and in every row, IS THE sha256 OF THE DUMP (.gsa) THAT YtlkoekcoafddpaaDoorProg.lean LOADS. Nothing in Lean hashes anything: it is a label: what it is worth is what the hold of that sum in a sandbox is worth. -/
noncomputable def Tryd.pinned : Pinned := { name := "ytlkoekcoafddpaadoor", sum := "06c1487a695a586478b608d39d282b7f31c29c174185df9f626b942296cfa5d6", checked := Tryd.checked }
namespace Rows
def none {H : Type} : Left H := { results := [], args := [] }

/- WHAT THE LISTED PACKAGE-LEVEL VARIABLES READ AS WHEN THE CALL BEGINS. Each datum BY PROGRAM (the guide's laid-datum.mjs) off the statement by which the dump's own 'gosem.cut.vars' lays the variable. In a bare row this is a premise. The card (YtlkoekcoafddpaaDoorCards.lean) ties it to the program's text. -/
def laid_unicode_utf8_acceptRanges {H : Type} : DataW H := .agg [.agg [.lit (.int .u8 128), .lit (.int .u8 191)], .agg [.lit (.int .u8 160), .lit (.int .u8 191)], .agg [.lit (.int .u8 128), .lit (.int .u8 159)], .agg [.lit (.int .u8 144), .lit (.int .u8 191)], .agg [.lit (.int .u8 128), .lit (.int .u8 143)], .agg [.lit (.int .u8 0), .lit (.int .u8 0)], .agg [.lit (.int .u8 0), .lit (.int .u8 0)], .agg [.lit (.int .u8 0), .lit (.int .u8 0)], .agg [.lit (.int .u8 0), .lit (.int .u8 0)], .agg [.lit (.int .u8 0), .lit (.int .u8 0)], .agg [.lit (.int .u8 0), .lit (.int .u8 0)], .agg [.lit (.int .u8 0), .lit (.int .u8 0)], .agg [.lit (.int .u8 0), .lit (.int .u8 0)], .agg [.lit (.int .u8 0), .lit (.int .u8 0)], .agg [.lit (.int .u8 0), .lit (.int .u8 0)], .agg [.lit (.int .u8 0), .lit (.int .u8 0)]]
/-- One of Go's own tables, pinned by name: the form's constant. -/
def laid_unicode_utf8_first : DataW Unit := Go.Pinned.utf8First

/-- 'platenlaw04.RunesTells': WHATEVER THE INPUT: true; the input reads as it did. -/
def runesTellsSpec : ChangeSpec := { name := "runesTells", fn := fun _ => fun
  | [d1, d2] => { results := [.lit (.bool true)], args := [d1, d2] }
  | _ => none }
def runesTellsRow : OpenClaim := { program := "ytlkoekcoafddpaadoor", sum := "06c1487a695a586478b608d39d282b7f31c29c174185df9f626b942296cfa5d6", func := "platen/platenlaw04.RunesTells", spec := "runesTells", unfollowed := true, recurses := true, named := ["unicode/utf8.first", "unicode/utf8.acceptRanges"], apart := false, laid := [("unicode/utf8.acceptRanges", laid_unicode_utf8_acceptRanges), ("unicode/utf8.first", laid_unicode_utf8_first)] }
def RunesTellsSaid : Prop := runesTellsRow.holds Tryd.pinned (OpenSpec.ofChange runesTellsSpec)

/-- ITS FALSE NEIGHBOUR: 'it returns false'. Refute it at one input. -/
def runesTellsWrong : ChangeSpec := { name := "runesTells", fn := fun _ => fun
  | [d1, d2] => { results := [.lit (.bool false)], args := [d1, d2] }
  | _ => none }
def RunesTellsWrongFalsely : Prop := runesTellsRow.holds Tryd.pinned (OpenSpec.ofChange runesTellsWrong)

/-- 'platenlaw04.RunesOne': WHATEVER THE INPUT: true; the input reads as it did. -/
def runesOneSpec : ChangeSpec := { name := "runesOne", fn := fun _ => fun
  | [d] => { results := [.lit (.bool true)], args := [d] }
  | _ => none }
def runesOneRow : OpenClaim := { program := "ytlkoekcoafddpaadoor", sum := "06c1487a695a586478b608d39d282b7f31c29c174185df9f626b942296cfa5d6", func := "platen/platenlaw04.RunesOne", spec := "runesOne", unfollowed := true, recurses := true, named := ["unicode/utf8.first", "unicode/utf8.acceptRanges"], apart := false, laid := [("unicode/utf8.acceptRanges", laid_unicode_utf8_acceptRanges), ("unicode/utf8.first", laid_unicode_utf8_first)] }
def RunesOneSaid : Prop := runesOneRow.holds Tryd.pinned (OpenSpec.ofChange runesOneSpec)

/-- ITS FALSE NEIGHBOUR: 'it returns false'. Refute it at one input. -/
def runesOneWrong : ChangeSpec := { name := "runesOne", fn := fun _ => fun
  | [d] => { results := [.lit (.bool false)], args := [d] }
  | _ => none }
def RunesOneWrongFalsely : Prop := runesOneRow.holds Tryd.pinned (OpenSpec.ofChange runesOneWrong)

/-- 'platenlaw04.RunesRange': WHATEVER THE INPUT: true; the input reads as it did. -/
def runesRangeSpec : ChangeSpec := { name := "runesRange", fn := fun _ => fun
  | [d] => { results := [.lit (.bool true)], args := [d] }
  | _ => none }
def runesRangeRow : OpenClaim := { program := "ytlkoekcoafddpaadoor", sum := "06c1487a695a586478b608d39d282b7f31c29c174185df9f626b942296cfa5d6", func := "platen/platenlaw04.RunesRange", spec := "runesRange", unfollowed := true, recurses := true, named := ["unicode/utf8.first", "unicode/utf8.acceptRanges"], apart := false, laid := [("unicode/utf8.acceptRanges", laid_unicode_utf8_acceptRanges), ("unicode/utf8.first", laid_unicode_utf8_first)] }
def RunesRangeSaid : Prop := runesRangeRow.holds Tryd.pinned (OpenSpec.ofChange runesRangeSpec)

/-- ITS FALSE NEIGHBOUR: 'it returns false'. Refute it at one input. -/
def runesRangeWrong : ChangeSpec := { name := "runesRange", fn := fun _ => fun
  | [d] => { results := [.lit (.bool false)], args := [d] }
  | _ => none }
def RunesRangeWrongFalsely : Prop := runesRangeRow.holds Tryd.pinned (OpenSpec.ofChange runesRangeWrong)

/-- 'platenlaw04.RunesFirst': WHATEVER THE INPUT: true; the input reads as it did. -/
def runesFirstSpec : ChangeSpec := { name := "runesFirst", fn := fun _ => fun
  | [d1, d2] => { results := [.lit (.bool true)], args := [d1, d2] }
  | _ => none }
def runesFirstRow : OpenClaim := { program := "ytlkoekcoafddpaadoor", sum := "06c1487a695a586478b608d39d282b7f31c29c174185df9f626b942296cfa5d6", func := "platen/platenlaw04.RunesFirst", spec := "runesFirst", unfollowed := true, recurses := true, named := ["unicode/utf8.first", "unicode/utf8.acceptRanges"], apart := false, laid := [("unicode/utf8.acceptRanges", laid_unicode_utf8_acceptRanges), ("unicode/utf8.first", laid_unicode_utf8_first)] }
def RunesFirstSaid : Prop := runesFirstRow.holds Tryd.pinned (OpenSpec.ofChange runesFirstSpec)

/-- ITS FALSE NEIGHBOUR: 'it returns false'. Refute it at one input. -/
def runesFirstWrong : ChangeSpec := { name := "runesFirst", fn := fun _ => fun
  | [d1, d2] => { results := [.lit (.bool false)], args := [d1, d2] }
  | _ => none }
def RunesFirstWrongFalsely : Prop := runesFirstRow.holds Tryd.pinned (OpenSpec.ofChange runesFirstWrong)

/-- 'platenlaw04.RunesJoin': WHATEVER THE INPUT: true; the input reads as it did. -/
def runesJoinSpec : ChangeSpec := { name := "runesJoin", fn := fun _ => fun
  | [d1, d2] => { results := [.lit (.bool true)], args := [d1, d2] }
  | _ => none }
def runesJoinRow : OpenClaim := { program := "ytlkoekcoafddpaadoor", sum := "06c1487a695a586478b608d39d282b7f31c29c174185df9f626b942296cfa5d6", func := "platen/platenlaw04.RunesJoin", spec := "runesJoin", unfollowed := true, recurses := true, named := ["unicode/utf8.first", "unicode/utf8.acceptRanges"], apart := false, laid := [("unicode/utf8.acceptRanges", laid_unicode_utf8_acceptRanges), ("unicode/utf8.first", laid_unicode_utf8_first)] }
def RunesJoinSaid : Prop := runesJoinRow.holds Tryd.pinned (OpenSpec.ofChange runesJoinSpec)

/-- ITS FALSE NEIGHBOUR: 'it returns false'. Refute it at one input. -/
def runesJoinWrong : ChangeSpec := { name := "runesJoin", fn := fun _ => fun
  | [d1, d2] => { results := [.lit (.bool false)], args := [d1, d2] }
  | _ => none }
def RunesJoinWrongFalsely : Prop := runesJoinRow.holds Tryd.pinned (OpenSpec.ofChange runesJoinWrong)

/-- 'platenlaw04.RunesNumbers': WHATEVER THE INPUT: true; the input reads as it did. -/
def runesNumbersSpec : ChangeSpec := { name := "runesNumbers", fn := fun _ => fun
  | [] => { results := [.lit (.bool true)], args := [] }
  | _ => none }
def runesNumbersRow : OpenClaim := { program := "ytlkoekcoafddpaadoor", sum := "06c1487a695a586478b608d39d282b7f31c29c174185df9f626b942296cfa5d6", func := "platen/platenlaw04.RunesNumbers", spec := "runesNumbers", unfollowed := true, recurses := true, named := ["unicode/utf8.first", "unicode/utf8.acceptRanges"], apart := false, laid := [("unicode/utf8.acceptRanges", laid_unicode_utf8_acceptRanges), ("unicode/utf8.first", laid_unicode_utf8_first)] }
def RunesNumbersSaid : Prop := runesNumbersRow.holds Tryd.pinned (OpenSpec.ofChange runesNumbersSpec)

/-- ITS FALSE NEIGHBOUR: 'it returns false'. Refute it at one input. -/
def runesNumbersWrong : ChangeSpec := { name := "runesNumbers", fn := fun _ => fun
  | [] => { results := [.lit (.bool false)], args := [] }
  | _ => none }
def RunesNumbersWrongFalsely : Prop := runesNumbersRow.holds Tryd.pinned (OpenSpec.ofChange runesNumbersWrong)

/- THE SECOND FORM. 'bulk': how many values and letters a reading holds, each counted each time it is reached (what is shared counts as often as it is met; a slice's spare places count too). A statement '..UptoSaid' is the law's where the arguments, and the package variables that the reading takes, are together of bulk at most 1048576: NARROWER than '..Said'. Prove '..Said' where nothing that the law and all that it calls make is longer than what came in: it says more and counts as full. Else prove '..UptoSaid'. A law counts once. -/
mutual
def uptoBulk {H : Type} : DataW H → Nat
  | .lit (.string bytes) => bytes.length + 1
  | .lit _ => 1
  | .nil => 1
  | .ptr d => uptoBulk d + 1
  | .slice elems spare => uptoBulkAll elems + uptoBulkAll spare + 1
  | .agg parts => uptoBulkAll parts + 1
  | .iface _ d => uptoBulk d + 1
  | .map entries => uptoBulkEntries entries + 1
  | .held _ => 1
def uptoBulkAll {H : Type} : List (DataW H) → Nat
  | [] => 0
  | d :: r => uptoBulk d + uptoBulkAll r
def uptoBulkEntries {H : Type} : List (Lit × DataW H) → Nat
  | [] => 0
  | x :: r => uptoBulkEntry x + uptoBulkEntries r
def uptoBulkEntry {H : Type} : Lit × DataW H → Nat
  | (.string bytes, d) => bytes.length + uptoBulk d + 1
  | (_, d) => uptoBulk d + 1
 end
def uptoSmall : (H : Type) → List (DataW H) → Bool := fun _ ds => decide (uptoBulkAll ds ≤ 1048576)
def OpenSpec.upto (s : _root_.Go.ChangeSpec) : _root_.Go.OpenSpec := { _root_.Go.OpenSpec.ofChange s with cond := some uptoSmall }

/-- 'platenlaw04.RunesTells', WHERE WHAT IT READS IS OF BULK AT MOST 1048576: true; the input reads as it did. -/
def runesTellsUptoRow : OpenClaim := { program := "ytlkoekcoafddpaadoor", sum := "06c1487a695a586478b608d39d282b7f31c29c174185df9f626b942296cfa5d6", func := "platen/platenlaw04.RunesTells", spec := "runesTells", unfollowed := true, recurses := true, named := ["unicode/utf8.first", "unicode/utf8.acceptRanges"], apart := false, laid := [("unicode/utf8.acceptRanges", laid_unicode_utf8_acceptRanges), ("unicode/utf8.first", laid_unicode_utf8_first)], narrowed := true }
def RunesTellsUptoSaid : Prop := runesTellsUptoRow.holds Tryd.pinned (OpenSpec.upto runesTellsSpec)

/-- 'platenlaw04.RunesOne', WHERE WHAT IT READS IS OF BULK AT MOST 1048576: true; the input reads as it did. -/
def runesOneUptoRow : OpenClaim := { program := "ytlkoekcoafddpaadoor", sum := "06c1487a695a586478b608d39d282b7f31c29c174185df9f626b942296cfa5d6", func := "platen/platenlaw04.RunesOne", spec := "runesOne", unfollowed := true, recurses := true, named := ["unicode/utf8.first", "unicode/utf8.acceptRanges"], apart := false, laid := [("unicode/utf8.acceptRanges", laid_unicode_utf8_acceptRanges), ("unicode/utf8.first", laid_unicode_utf8_first)], narrowed := true }
def RunesOneUptoSaid : Prop := runesOneUptoRow.holds Tryd.pinned (OpenSpec.upto runesOneSpec)

/-- 'platenlaw04.RunesRange', WHERE WHAT IT READS IS OF BULK AT MOST 1048576: true; the input reads as it did. -/
def runesRangeUptoRow : OpenClaim := { program := "ytlkoekcoafddpaadoor", sum := "06c1487a695a586478b608d39d282b7f31c29c174185df9f626b942296cfa5d6", func := "platen/platenlaw04.RunesRange", spec := "runesRange", unfollowed := true, recurses := true, named := ["unicode/utf8.first", "unicode/utf8.acceptRanges"], apart := false, laid := [("unicode/utf8.acceptRanges", laid_unicode_utf8_acceptRanges), ("unicode/utf8.first", laid_unicode_utf8_first)], narrowed := true }
def RunesRangeUptoSaid : Prop := runesRangeUptoRow.holds Tryd.pinned (OpenSpec.upto runesRangeSpec)

/-- 'platenlaw04.RunesFirst', WHERE WHAT IT READS IS OF BULK AT MOST 1048576: true; the input reads as it did. -/
def runesFirstUptoRow : OpenClaim := { program := "ytlkoekcoafddpaadoor", sum := "06c1487a695a586478b608d39d282b7f31c29c174185df9f626b942296cfa5d6", func := "platen/platenlaw04.RunesFirst", spec := "runesFirst", unfollowed := true, recurses := true, named := ["unicode/utf8.first", "unicode/utf8.acceptRanges"], apart := false, laid := [("unicode/utf8.acceptRanges", laid_unicode_utf8_acceptRanges), ("unicode/utf8.first", laid_unicode_utf8_first)], narrowed := true }
def RunesFirstUptoSaid : Prop := runesFirstUptoRow.holds Tryd.pinned (OpenSpec.upto runesFirstSpec)

/-- 'platenlaw04.RunesJoin', WHERE WHAT IT READS IS OF BULK AT MOST 1048576: true; the input reads as it did. -/
def runesJoinUptoRow : OpenClaim := { program := "ytlkoekcoafddpaadoor", sum := "06c1487a695a586478b608d39d282b7f31c29c174185df9f626b942296cfa5d6", func := "platen/platenlaw04.RunesJoin", spec := "runesJoin", unfollowed := true, recurses := true, named := ["unicode/utf8.first", "unicode/utf8.acceptRanges"], apart := false, laid := [("unicode/utf8.acceptRanges", laid_unicode_utf8_acceptRanges), ("unicode/utf8.first", laid_unicode_utf8_first)], narrowed := true }
def RunesJoinUptoSaid : Prop := runesJoinUptoRow.holds Tryd.pinned (OpenSpec.upto runesJoinSpec)

/-- 'platenlaw04.RunesNumbers', WHERE WHAT IT READS IS OF BULK AT MOST 1048576: true; the input reads as it did. -/
def runesNumbersUptoRow : OpenClaim := { program := "ytlkoekcoafddpaadoor", sum := "06c1487a695a586478b608d39d282b7f31c29c174185df9f626b942296cfa5d6", func := "platen/platenlaw04.RunesNumbers", spec := "runesNumbers", unfollowed := true, recurses := true, named := ["unicode/utf8.first", "unicode/utf8.acceptRanges"], apart := false, laid := [("unicode/utf8.acceptRanges", laid_unicode_utf8_acceptRanges), ("unicode/utf8.first", laid_unicode_utf8_first)], narrowed := true }
def RunesNumbersUptoSaid : Prop := runesNumbersUptoRow.holds Tryd.pinned (OpenSpec.upto runesNumbersSpec)

end Rows
end Go.Proofs.YtlkoekcoafddpaaDoor
