/-
  No cell of these rows narrows 'for every input' (looked for: loops, veiled, ifaces, maps, wideKeys, modest, calm, conditions, laid).
  DERIVED. THE GIVEN ROWS OF THIS SEAT. 12 by the template 'for every input the law returns true; each argument reads behind the call as it read before'; 0 by the template 'total and deterministic' (their statements: YtgelccenbceeoaaTotals.lean).
  GIVEN WITH THE SEED: the statements are not yours to turn. If you find one false, say at which input.
  Laid BY PROGRAM, IN A SANDBOX (cutbox-rows.mjs): the forced cells as the released guide's own fill.sh prints them over the translation 06c9f37cbd9412cd… (all of the seat's roots in one cut). By AI agents, Wed Nov 11 2026. No macro, syntax, notation, axiom, sorry.
-/
import Derived.Test.YtgelccenbceeoaaChecked
import GoSem.Claim
import GoSem.ClaimJoined
import GoSem.ClaimMapViews
import Derived.JoinedTies
import Derived.KernelRfl
namespace Go.Proofs.Ytgelccenbceeoaa
/- THE CELL 'sum', in the pinned program and in every row, IS THE sha256 OF THE DUMP (.gsa) THAT YtgelccenbceeoaaProg.lean LOADS. Nothing in Lean hashes anything: it is a label: what it is worth is what the hold of that sum in a sandbox is worth. -/
noncomputable def Try.pinned : Pinned := { name := "ytgelccenbceeoaa", sum := "06c9f37cbd9412cd9f81fa8ca152abffa1a842de4ad0c799ae2c70ec8a2081ae", checked := Try.checked }
namespace Rows
def none {H : Type} : Left H := { results := [], args := [] }

/-- 'platenlaw02.MeterParts': WHATEVER THE INPUT: true; the input reads as it did. -/
def meterPartsSpec : ChangeSpec := { name := "meterParts", fn := fun _ => fun
  | [d1, d2, d3, d4, d5] => { results := [.lit (.bool true)], args := [d1, d2, d3, d4, d5] }
  | _ => none }
def meterPartsRow : OpenClaim := { program := "ytgelccenbceeoaa", sum := "06c9f37cbd9412cd9f81fa8ca152abffa1a842de4ad0c799ae2c70ec8a2081ae", func := "platen/platenlaw02.MeterParts", spec := "meterParts", unfollowed := true, recurses := true, apart := false }
def MeterPartsSaid : Prop := meterPartsRow.holds Try.pinned (OpenSpec.ofChange meterPartsSpec)

/-- ITS FALSE NEIGHBOUR: 'it returns false'. Refute it at one input. -/
def meterPartsWrong : ChangeSpec := { name := "meterParts", fn := fun _ => fun
  | [d1, d2, d3, d4, d5] => { results := [.lit (.bool false)], args := [d1, d2, d3, d4, d5] }
  | _ => none }
def MeterPartsWrongFalsely : Prop := meterPartsRow.holds Try.pinned (OpenSpec.ofChange meterPartsWrong)

/-- 'platenlaw02.MeterTight': WHATEVER THE INPUT: true; the input reads as it did. -/
def meterTightSpec : ChangeSpec := { name := "meterTight", fn := fun _ => fun
  | [d1, d2, d3] => { results := [.lit (.bool true)], args := [d1, d2, d3] }
  | _ => none }
def meterTightRow : OpenClaim := { program := "ytgelccenbceeoaa", sum := "06c9f37cbd9412cd9f81fa8ca152abffa1a842de4ad0c799ae2c70ec8a2081ae", func := "platen/platenlaw02.MeterTight", spec := "meterTight", unfollowed := true, recurses := true, apart := false }
def MeterTightSaid : Prop := meterTightRow.holds Try.pinned (OpenSpec.ofChange meterTightSpec)

/-- ITS FALSE NEIGHBOUR: 'it returns false'. Refute it at one input. -/
def meterTightWrong : ChangeSpec := { name := "meterTight", fn := fun _ => fun
  | [d1, d2, d3] => { results := [.lit (.bool false)], args := [d1, d2, d3] }
  | _ => none }
def MeterTightWrongFalsely : Prop := meterTightRow.holds Try.pinned (OpenSpec.ofChange meterTightWrong)

/-- 'platenlaw02.MeterNames': WHATEVER THE INPUT: true; the input reads as it did. -/
def meterNamesSpec : ChangeSpec := { name := "meterNames", fn := fun _ => fun
  | [] => { results := [.lit (.bool true)], args := [] }
  | _ => none }
def meterNamesRow : OpenClaim := { program := "ytgelccenbceeoaa", sum := "06c9f37cbd9412cd9f81fa8ca152abffa1a842de4ad0c799ae2c70ec8a2081ae", func := "platen/platenlaw02.MeterNames", spec := "meterNames", unfollowed := true, recurses := true, apart := false }
def MeterNamesSaid : Prop := meterNamesRow.holds Try.pinned (OpenSpec.ofChange meterNamesSpec)

/-- ITS FALSE NEIGHBOUR: 'it returns false'. Refute it at one input. -/
def meterNamesWrong : ChangeSpec := { name := "meterNames", fn := fun _ => fun
  | [] => { results := [.lit (.bool false)], args := [] }
  | _ => none }
def MeterNamesWrongFalsely : Prop := meterNamesRow.holds Try.pinned (OpenSpec.ofChange meterNamesWrong)

/-- 'platenlaw02.MeterScript': WHATEVER THE INPUT: true; the input reads as it did. -/
def meterScriptSpec : ChangeSpec := { name := "meterScript", fn := fun _ => fun
  | [d1, d2, d3] => { results := [.lit (.bool true)], args := [d1, d2, d3] }
  | _ => none }
def meterScriptRow : OpenClaim := { program := "ytgelccenbceeoaa", sum := "06c9f37cbd9412cd9f81fa8ca152abffa1a842de4ad0c799ae2c70ec8a2081ae", func := "platen/platenlaw02.MeterScript", spec := "meterScript", unfollowed := true, recurses := true, apart := false }
def MeterScriptSaid : Prop := meterScriptRow.holds Try.pinned (OpenSpec.ofChange meterScriptSpec)

/-- ITS FALSE NEIGHBOUR: 'it returns false'. Refute it at one input. -/
def meterScriptWrong : ChangeSpec := { name := "meterScript", fn := fun _ => fun
  | [d1, d2, d3] => { results := [.lit (.bool false)], args := [d1, d2, d3] }
  | _ => none }
def MeterScriptWrongFalsely : Prop := meterScriptRow.holds Try.pinned (OpenSpec.ofChange meterScriptWrong)

/-- 'platenlaw17.ColumnTall': WHATEVER THE INPUT: true; the input reads as it did. -/
def columnTallSpec : ChangeSpec := { name := "columnTall", fn := fun _ => fun
  | [d] => { results := [.lit (.bool true)], args := [d] }
  | _ => none }
def columnTallRow : OpenClaim := { program := "ytgelccenbceeoaa", sum := "06c9f37cbd9412cd9f81fa8ca152abffa1a842de4ad0c799ae2c70ec8a2081ae", func := "platen/platenlaw17.ColumnTall", spec := "columnTall", unfollowed := true, recurses := true, apart := false }
def ColumnTallSaid : Prop := columnTallRow.holds Try.pinned (OpenSpec.ofChange columnTallSpec)

/-- ITS FALSE NEIGHBOUR: 'it returns false'. Refute it at one input. -/
def columnTallWrong : ChangeSpec := { name := "columnTall", fn := fun _ => fun
  | [d] => { results := [.lit (.bool false)], args := [d] }
  | _ => none }
def ColumnTallWrongFalsely : Prop := columnTallRow.holds Try.pinned (OpenSpec.ofChange columnTallWrong)

/-- 'platenlaw17.ColumnParts': WHATEVER THE INPUT: true; the input reads as it did. -/
def columnPartsSpec : ChangeSpec := { name := "columnParts", fn := fun _ => fun
  | [d1, d2, d3] => { results := [.lit (.bool true)], args := [d1, d2, d3] }
  | _ => none }
def columnPartsRow : OpenClaim := { program := "ytgelccenbceeoaa", sum := "06c9f37cbd9412cd9f81fa8ca152abffa1a842de4ad0c799ae2c70ec8a2081ae", func := "platen/platenlaw17.ColumnParts", spec := "columnParts", unfollowed := true, recurses := true, apart := false }
def ColumnPartsSaid : Prop := columnPartsRow.holds Try.pinned (OpenSpec.ofChange columnPartsSpec)

/-- ITS FALSE NEIGHBOUR: 'it returns false'. Refute it at one input. -/
def columnPartsWrong : ChangeSpec := { name := "columnParts", fn := fun _ => fun
  | [d1, d2, d3] => { results := [.lit (.bool false)], args := [d1, d2, d3] }
  | _ => none }
def ColumnPartsWrongFalsely : Prop := columnPartsRow.holds Try.pinned (OpenSpec.ofChange columnPartsWrong)

/-- 'platenlaw17.ColumnGrows': WHATEVER THE INPUT: true; the input reads as it did. -/
def columnGrowsSpec : ChangeSpec := { name := "columnGrows", fn := fun _ => fun
  | [d1, d2] => { results := [.lit (.bool true)], args := [d1, d2] }
  | _ => none }
def columnGrowsRow : OpenClaim := { program := "ytgelccenbceeoaa", sum := "06c9f37cbd9412cd9f81fa8ca152abffa1a842de4ad0c799ae2c70ec8a2081ae", func := "platen/platenlaw17.ColumnGrows", spec := "columnGrows", unfollowed := true, recurses := true, apart := false }
def ColumnGrowsSaid : Prop := columnGrowsRow.holds Try.pinned (OpenSpec.ofChange columnGrowsSpec)

/-- ITS FALSE NEIGHBOUR: 'it returns false'. Refute it at one input. -/
def columnGrowsWrong : ChangeSpec := { name := "columnGrows", fn := fun _ => fun
  | [d1, d2] => { results := [.lit (.bool false)], args := [d1, d2] }
  | _ => none }
def ColumnGrowsWrongFalsely : Prop := columnGrowsRow.holds Try.pinned (OpenSpec.ofChange columnGrowsWrong)

/-- 'platenlaw17.ColumnSlabs': WHATEVER THE INPUT: true; the input reads as it did. -/
def columnSlabsSpec : ChangeSpec := { name := "columnSlabs", fn := fun _ => fun
  | [d1, d2, d3, d4] => { results := [.lit (.bool true)], args := [d1, d2, d3, d4] }
  | _ => none }
def columnSlabsRow : OpenClaim := { program := "ytgelccenbceeoaa", sum := "06c9f37cbd9412cd9f81fa8ca152abffa1a842de4ad0c799ae2c70ec8a2081ae", func := "platen/platenlaw17.ColumnSlabs", spec := "columnSlabs", unfollowed := true, recurses := true, apart := false }
def ColumnSlabsSaid : Prop := columnSlabsRow.holds Try.pinned (OpenSpec.ofChange columnSlabsSpec)

/-- ITS FALSE NEIGHBOUR: 'it returns false'. Refute it at one input. -/
def columnSlabsWrong : ChangeSpec := { name := "columnSlabs", fn := fun _ => fun
  | [d1, d2, d3, d4] => { results := [.lit (.bool false)], args := [d1, d2, d3, d4] }
  | _ => none }
def ColumnSlabsWrongFalsely : Prop := columnSlabsRow.holds Try.pinned (OpenSpec.ofChange columnSlabsWrong)

/-- 'platenlaw18.PageGood': WHATEVER THE INPUT: true; the input reads as it did. -/
def pageGoodSpec : ChangeSpec := { name := "pageGood", fn := fun _ => fun
  | [d1, d2] => { results := [.lit (.bool true)], args := [d1, d2] }
  | _ => none }
def pageGoodRow : OpenClaim := { program := "ytgelccenbceeoaa", sum := "06c9f37cbd9412cd9f81fa8ca152abffa1a842de4ad0c799ae2c70ec8a2081ae", func := "platen/platenlaw18.PageGood", spec := "pageGood", unfollowed := true, recurses := true, apart := false }
def PageGoodSaid : Prop := pageGoodRow.holds Try.pinned (OpenSpec.ofChange pageGoodSpec)

/-- ITS FALSE NEIGHBOUR: 'it returns false'. Refute it at one input. -/
def pageGoodWrong : ChangeSpec := { name := "pageGood", fn := fun _ => fun
  | [d1, d2] => { results := [.lit (.bool false)], args := [d1, d2] }
  | _ => none }
def PageGoodWrongFalsely : Prop := pageGoodRow.holds Try.pinned (OpenSpec.ofChange pageGoodWrong)

/-- 'platenlaw18.PageNumbers': WHATEVER THE INPUT: true; the input reads as it did. -/
def pageNumbersSpec : ChangeSpec := { name := "pageNumbers", fn := fun _ => fun
  | [] => { results := [.lit (.bool true)], args := [] }
  | _ => none }
def pageNumbersRow : OpenClaim := { program := "ytgelccenbceeoaa", sum := "06c9f37cbd9412cd9f81fa8ca152abffa1a842de4ad0c799ae2c70ec8a2081ae", func := "platen/platenlaw18.PageNumbers", spec := "pageNumbers", unfollowed := true, recurses := true, apart := false }
def PageNumbersSaid : Prop := pageNumbersRow.holds Try.pinned (OpenSpec.ofChange pageNumbersSpec)

/-- ITS FALSE NEIGHBOUR: 'it returns false'. Refute it at one input. -/
def pageNumbersWrong : ChangeSpec := { name := "pageNumbers", fn := fun _ => fun
  | [] => { results := [.lit (.bool false)], args := [] }
  | _ => none }
def PageNumbersWrongFalsely : Prop := pageNumbersRow.holds Try.pinned (OpenSpec.ofChange pageNumbersWrong)

/-- 'platenlaw18.PageHolds': WHATEVER THE INPUT: true; the input reads as it did. -/
def pageHoldsSpec : ChangeSpec := { name := "pageHolds", fn := fun _ => fun
  | [d1, d2] => { results := [.lit (.bool true)], args := [d1, d2] }
  | _ => none }
def pageHoldsRow : OpenClaim := { program := "ytgelccenbceeoaa", sum := "06c9f37cbd9412cd9f81fa8ca152abffa1a842de4ad0c799ae2c70ec8a2081ae", func := "platen/platenlaw18.PageHolds", spec := "pageHolds", unfollowed := true, recurses := true, apart := false }
def PageHoldsSaid : Prop := pageHoldsRow.holds Try.pinned (OpenSpec.ofChange pageHoldsSpec)

/-- ITS FALSE NEIGHBOUR: 'it returns false'. Refute it at one input. -/
def pageHoldsWrong : ChangeSpec := { name := "pageHolds", fn := fun _ => fun
  | [d1, d2] => { results := [.lit (.bool false)], args := [d1, d2] }
  | _ => none }
def PageHoldsWrongFalsely : Prop := pageHoldsRow.holds Try.pinned (OpenSpec.ofChange pageHoldsWrong)

/-- 'platenlaw18.PageCuts': WHATEVER THE INPUT: true; the input reads as it did. -/
def pageCutsSpec : ChangeSpec := { name := "pageCuts", fn := fun _ => fun
  | [d1, d2, d3, d4] => { results := [.lit (.bool true)], args := [d1, d2, d3, d4] }
  | _ => none }
def pageCutsRow : OpenClaim := { program := "ytgelccenbceeoaa", sum := "06c9f37cbd9412cd9f81fa8ca152abffa1a842de4ad0c799ae2c70ec8a2081ae", func := "platen/platenlaw18.PageCuts", spec := "pageCuts", unfollowed := true, recurses := true, apart := false }
def PageCutsSaid : Prop := pageCutsRow.holds Try.pinned (OpenSpec.ofChange pageCutsSpec)

/-- ITS FALSE NEIGHBOUR: 'it returns false'. Refute it at one input. -/
def pageCutsWrong : ChangeSpec := { name := "pageCuts", fn := fun _ => fun
  | [d1, d2, d3, d4] => { results := [.lit (.bool false)], args := [d1, d2, d3, d4] }
  | _ => none }
def PageCutsWrongFalsely : Prop := pageCutsRow.holds Try.pinned (OpenSpec.ofChange pageCutsWrong)

/- THE SECOND FORM. 'bulk': how many values and letters a reading holds, each counted each time it is reached (what is shared counts as often as it is met; a slice's spare places count too). A statement '..UptoSaid' is the law's where the arguments, and the package variables that the reading takes, are together of bulk at most 1048576: NARROWER than '..Said'. Prove '..Said' where nothing that the law and all that it calls make is longer than what came in: it says more and counts as full. Else prove '..UptoSaid'. A law counts once. -/
mutual
def uptoBulk {H : Type} : DataW H → Nat
  | .lit (.string bytes) => bytes.length + 1
  | .lit _ => 1
  | .nil => 1
  | .ptr d => uptoBulk d + 1
  | .slice elems spare => uptoBulkAll elems + uptoBulkAll spare + 1
  | .agg parts => uptoBulkAll parts + 1
  | .iface _ d => uptoBulk d + 1
  | .map entries => uptoBulkEntries entries + 1
  | .held _ => 1
def uptoBulkAll {H : Type} : List (DataW H) → Nat
  | [] => 0
  | d :: r => uptoBulk d + uptoBulkAll r
def uptoBulkEntries {H : Type} : List (Lit × DataW H) → Nat
  | [] => 0
  | x :: r => uptoBulkEntry x + uptoBulkEntries r
def uptoBulkEntry {H : Type} : Lit × DataW H → Nat
  | (.string bytes, d) => bytes.length + uptoBulk d + 1
  | (_, d) => uptoBulk d + 1
 end
def uptoSmall : (H : Type) → List (DataW H) → Bool := fun _ ds => decide (uptoBulkAll ds ≤ 1048576)
def OpenSpec.upto (s : _root_.Go.ChangeSpec) : _root_.Go.OpenSpec := { _root_.Go.OpenSpec.ofChange s with cond := some uptoSmall }

/-- 'platenlaw02.MeterParts', WHERE WHAT IT READS IS OF BULK AT MOST 1048576: true; the input reads as it did. -/
def meterPartsUptoRow : OpenClaim := { program := "ytgelccenbceeoaa", sum := "06c9f37cbd9412cd9f81fa8ca152abffa1a842de4ad0c799ae2c70ec8a2081ae", func := "platen/platenlaw02.MeterParts", spec := "meterParts", unfollowed := true, recurses := true, apart := false, narrowed := true }
def MeterPartsUptoSaid : Prop := meterPartsUptoRow.holds Try.pinned (OpenSpec.upto meterPartsSpec)

/-- 'platenlaw02.MeterTight', WHERE WHAT IT READS IS OF BULK AT MOST 1048576: true; the input reads as it did. -/
def meterTightUptoRow : OpenClaim := { program := "ytgelccenbceeoaa", sum := "06c9f37cbd9412cd9f81fa8ca152abffa1a842de4ad0c799ae2c70ec8a2081ae", func := "platen/platenlaw02.MeterTight", spec := "meterTight", unfollowed := true, recurses := true, apart := false, narrowed := true }
def MeterTightUptoSaid : Prop := meterTightUptoRow.holds Try.pinned (OpenSpec.upto meterTightSpec)

/-- 'platenlaw02.MeterNames', WHERE WHAT IT READS IS OF BULK AT MOST 1048576: true; the input reads as it did. -/
def meterNamesUptoRow : OpenClaim := { program := "ytgelccenbceeoaa", sum := "06c9f37cbd9412cd9f81fa8ca152abffa1a842de4ad0c799ae2c70ec8a2081ae", func := "platen/platenlaw02.MeterNames", spec := "meterNames", unfollowed := true, recurses := true, apart := false, narrowed := true }
def MeterNamesUptoSaid : Prop := meterNamesUptoRow.holds Try.pinned (OpenSpec.upto meterNamesSpec)

/-- 'platenlaw02.MeterScript', WHERE WHAT IT READS IS OF BULK AT MOST 1048576: true; the input reads as it did. -/
def meterScriptUptoRow : OpenClaim := { program := "ytgelccenbceeoaa", sum := "06c9f37cbd9412cd9f81fa8ca152abffa1a842de4ad0c799ae2c70ec8a2081ae", func := "platen/platenlaw02.MeterScript", spec := "meterScript", unfollowed := true, recurses := true, apart := false, narrowed := true }
def MeterScriptUptoSaid : Prop := meterScriptUptoRow.holds Try.pinned (OpenSpec.upto meterScriptSpec)

/-- 'platenlaw17.ColumnTall', WHERE WHAT IT READS IS OF BULK AT MOST 1048576: true; the input reads as it did. -/
def columnTallUptoRow : OpenClaim := { program := "ytgelccenbceeoaa", sum := "06c9f37cbd9412cd9f81fa8ca152abffa1a842de4ad0c799ae2c70ec8a2081ae", func := "platen/platenlaw17.ColumnTall", spec := "columnTall", unfollowed := true, recurses := true, apart := false, narrowed := true }
def ColumnTallUptoSaid : Prop := columnTallUptoRow.holds Try.pinned (OpenSpec.upto columnTallSpec)

/-- 'platenlaw17.ColumnParts', WHERE WHAT IT READS IS OF BULK AT MOST 1048576: true; the input reads as it did. -/
def columnPartsUptoRow : OpenClaim := { program := "ytgelccenbceeoaa", sum := "06c9f37cbd9412cd9f81fa8ca152abffa1a842de4ad0c799ae2c70ec8a2081ae", func := "platen/platenlaw17.ColumnParts", spec := "columnParts", unfollowed := true, recurses := true, apart := false, narrowed := true }
def ColumnPartsUptoSaid : Prop := columnPartsUptoRow.holds Try.pinned (OpenSpec.upto columnPartsSpec)

/-- 'platenlaw17.ColumnGrows', WHERE WHAT IT READS IS OF BULK AT MOST 1048576: true; the input reads as it did. -/
def columnGrowsUptoRow : OpenClaim := { program := "ytgelccenbceeoaa", sum := "06c9f37cbd9412cd9f81fa8ca152abffa1a842de4ad0c799ae2c70ec8a2081ae", func := "platen/platenlaw17.ColumnGrows", spec := "columnGrows", unfollowed := true, recurses := true, apart := false, narrowed := true }
def ColumnGrowsUptoSaid : Prop := columnGrowsUptoRow.holds Try.pinned (OpenSpec.upto columnGrowsSpec)

/-- 'platenlaw17.ColumnSlabs', WHERE WHAT IT READS IS OF BULK AT MOST 1048576: true; the input reads as it did. -/
def columnSlabsUptoRow : OpenClaim := { program := "ytgelccenbceeoaa", sum := "06c9f37cbd9412cd9f81fa8ca152abffa1a842de4ad0c799ae2c70ec8a2081ae", func := "platen/platenlaw17.ColumnSlabs", spec := "columnSlabs", unfollowed := true, recurses := true, apart := false, narrowed := true }
def ColumnSlabsUptoSaid : Prop := columnSlabsUptoRow.holds Try.pinned (OpenSpec.upto columnSlabsSpec)

/-- 'platenlaw18.PageGood', WHERE WHAT IT READS IS OF BULK AT MOST 1048576: true; the input reads as it did. -/
def pageGoodUptoRow : OpenClaim := { program := "ytgelccenbceeoaa", sum := "06c9f37cbd9412cd9f81fa8ca152abffa1a842de4ad0c799ae2c70ec8a2081ae", func := "platen/platenlaw18.PageGood", spec := "pageGood", unfollowed := true, recurses := true, apart := false, narrowed := true }
def PageGoodUptoSaid : Prop := pageGoodUptoRow.holds Try.pinned (OpenSpec.upto pageGoodSpec)

/-- 'platenlaw18.PageNumbers', WHERE WHAT IT READS IS OF BULK AT MOST 1048576: true; the input reads as it did. -/
def pageNumbersUptoRow : OpenClaim := { program := "ytgelccenbceeoaa", sum := "06c9f37cbd9412cd9f81fa8ca152abffa1a842de4ad0c799ae2c70ec8a2081ae", func := "platen/platenlaw18.PageNumbers", spec := "pageNumbers", unfollowed := true, recurses := true, apart := false, narrowed := true }
def PageNumbersUptoSaid : Prop := pageNumbersUptoRow.holds Try.pinned (OpenSpec.upto pageNumbersSpec)

/-- 'platenlaw18.PageHolds', WHERE WHAT IT READS IS OF BULK AT MOST 1048576: true; the input reads as it did. -/
def pageHoldsUptoRow : OpenClaim := { program := "ytgelccenbceeoaa", sum := "06c9f37cbd9412cd9f81fa8ca152abffa1a842de4ad0c799ae2c70ec8a2081ae", func := "platen/platenlaw18.PageHolds", spec := "pageHolds", unfollowed := true, recurses := true, apart := false, narrowed := true }
def PageHoldsUptoSaid : Prop := pageHoldsUptoRow.holds Try.pinned (OpenSpec.upto pageHoldsSpec)

/-- 'platenlaw18.PageCuts', WHERE WHAT IT READS IS OF BULK AT MOST 1048576: true; the input reads as it did. -/
def pageCutsUptoRow : OpenClaim := { program := "ytgelccenbceeoaa", sum := "06c9f37cbd9412cd9f81fa8ca152abffa1a842de4ad0c799ae2c70ec8a2081ae", func := "platen/platenlaw18.PageCuts", spec := "pageCuts", unfollowed := true, recurses := true, apart := false, narrowed := true }
def PageCutsUptoSaid : Prop := pageCutsUptoRow.holds Try.pinned (OpenSpec.upto pageCutsSpec)

end Rows
end Go.Proofs.Ytgelccenbceeoaa
