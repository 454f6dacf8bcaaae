/-
  No cell of these rows narrows 'for every input' (looked for: loops, veiled, ifaces, maps, wideKeys, modest, calm, conditions, laid).
  DERIVED. THE GIVEN ROWS OF THIS SEAT. 9 by the template 'for every input the law returns true; each argument reads behind the call as it read before'; 0 by the template 'total and deterministic' (their statements: YthcfgechifogeaaTotals.lean).
  GIVEN WITH THE SEED: the statements are not yours to turn. If you find one false, say at which input.
  Laid BY PROGRAM, IN A SANDBOX (cutbox-rows.mjs): the forced cells as the released guide's own fill.sh prints them over the translation d90d2a670a25092b… (all of the seat's roots in one cut). By AI agents, Wed Nov 11 2026. No macro, syntax, notation, axiom, sorry.
-/
import Derived.Test.YthcfgechifogeaaChecked
import GoSem.Claim
import GoSem.ClaimJoined
import GoSem.ClaimMapViews
import Derived.JoinedTies
import Derived.KernelRfl
namespace Go.Proofs.Ythcfgechifogeaa
/- THE CELL 'sum', in the pinned program and in every row, IS THE sha256 OF THE DUMP (.gsa) THAT YthcfgechifogeaaProg.lean LOADS. Nothing in Lean hashes anything: it is a label: what it is worth is what the hold of that sum in a sandbox is worth. -/
noncomputable def Try.pinned : Pinned := { name := "ythcfgechifogeaa", sum := "d90d2a670a25092b85d605a5318c304bcc64a191041e4b6aadb45a332200e1a1", checked := Try.checked }
namespace Rows
def none {H : Type} : Left H := { results := [], args := [] }

/-- 'platenlaw05.TableTells': WHATEVER THE INPUT: true; the input reads as it did. -/
def tableTellsSpec : ChangeSpec := { name := "tableTells", fn := fun _ => fun
  | [d1, d2] => { results := [.lit (.bool true)], args := [d1, d2] }
  | _ => none }
def tableTellsRow : OpenClaim := { program := "ythcfgechifogeaa", sum := "d90d2a670a25092b85d605a5318c304bcc64a191041e4b6aadb45a332200e1a1", func := "platen/platenlaw05.TableTells", spec := "tableTells", unfollowed := true, recurses := true, plainKeys := false, apart := false }
def TableTellsSaid : Prop := tableTellsRow.holds Try.pinned (OpenSpec.ofChange tableTellsSpec)

/-- ITS FALSE NEIGHBOUR: 'it returns false'. Refute it at one input. -/
def tableTellsWrong : ChangeSpec := { name := "tableTells", fn := fun _ => fun
  | [d1, d2] => { results := [.lit (.bool false)], args := [d1, d2] }
  | _ => none }
def TableTellsWrongFalsely : Prop := tableTellsRow.holds Try.pinned (OpenSpec.ofChange tableTellsWrong)

/-- 'platenlaw05.TableGoes': WHATEVER THE INPUT: true; the input reads as it did. -/
def tableGoesSpec : ChangeSpec := { name := "tableGoes", fn := fun _ => fun
  | [d1, d2] => { results := [.lit (.bool true)], args := [d1, d2] }
  | _ => none }
def tableGoesRow : OpenClaim := { program := "ythcfgechifogeaa", sum := "d90d2a670a25092b85d605a5318c304bcc64a191041e4b6aadb45a332200e1a1", func := "platen/platenlaw05.TableGoes", spec := "tableGoes", unfollowed := true, recurses := true, plainKeys := false, apart := false }
def TableGoesSaid : Prop := tableGoesRow.holds Try.pinned (OpenSpec.ofChange tableGoesSpec)

/-- ITS FALSE NEIGHBOUR: 'it returns false'. Refute it at one input. -/
def tableGoesWrong : ChangeSpec := { name := "tableGoes", fn := fun _ => fun
  | [d1, d2] => { results := [.lit (.bool false)], args := [d1, d2] }
  | _ => none }
def TableGoesWrongFalsely : Prop := tableGoesRow.holds Try.pinned (OpenSpec.ofChange tableGoesWrong)

/-- 'platenlaw05.TableFinds': WHATEVER THE INPUT: true; the input reads as it did. -/
def tableFindsSpec : ChangeSpec := { name := "tableFinds", fn := fun _ => fun
  | [d1, d2] => { results := [.lit (.bool true)], args := [d1, d2] }
  | _ => none }
def tableFindsRow : OpenClaim := { program := "ythcfgechifogeaa", sum := "d90d2a670a25092b85d605a5318c304bcc64a191041e4b6aadb45a332200e1a1", func := "platen/platenlaw05.TableFinds", spec := "tableFinds", unfollowed := true, recurses := true, plainKeys := false, apart := false }
def TableFindsSaid : Prop := tableFindsRow.holds Try.pinned (OpenSpec.ofChange tableFindsSpec)

/-- ITS FALSE NEIGHBOUR: 'it returns false'. Refute it at one input. -/
def tableFindsWrong : ChangeSpec := { name := "tableFinds", fn := fun _ => fun
  | [d1, d2] => { results := [.lit (.bool false)], args := [d1, d2] }
  | _ => none }
def TableFindsWrongFalsely : Prop := tableFindsRow.holds Try.pinned (OpenSpec.ofChange tableFindsWrong)

/-- 'platenlaw05.TableNumbers': WHATEVER THE INPUT: true; the input reads as it did. -/
def tableNumbersSpec : ChangeSpec := { name := "tableNumbers", fn := fun _ => fun
  | [] => { results := [.lit (.bool true)], args := [] }
  | _ => none }
def tableNumbersRow : OpenClaim := { program := "ythcfgechifogeaa", sum := "d90d2a670a25092b85d605a5318c304bcc64a191041e4b6aadb45a332200e1a1", func := "platen/platenlaw05.TableNumbers", spec := "tableNumbers", unfollowed := true, recurses := true, plainKeys := false, apart := false }
def TableNumbersSaid : Prop := tableNumbersRow.holds Try.pinned (OpenSpec.ofChange tableNumbersSpec)

/-- ITS FALSE NEIGHBOUR: 'it returns false'. Refute it at one input. -/
def tableNumbersWrong : ChangeSpec := { name := "tableNumbers", fn := fun _ => fun
  | [] => { results := [.lit (.bool false)], args := [] }
  | _ => none }
def TableNumbersWrongFalsely : Prop := tableNumbersRow.holds Try.pinned (OpenSpec.ofChange tableNumbersWrong)

/-- 'platenlaw06.FontPuts': WHATEVER THE INPUT: true; the input reads as it did. -/
def fontPutsSpec : ChangeSpec := { name := "fontPuts", fn := fun _ => fun
  | [d] => { results := [.lit (.bool true)], args := [d] }
  | _ => none }
def fontPutsRow : OpenClaim := { program := "ythcfgechifogeaa", sum := "d90d2a670a25092b85d605a5318c304bcc64a191041e4b6aadb45a332200e1a1", func := "platen/platenlaw06.FontPuts", spec := "fontPuts", unfollowed := true, recurses := true, plainKeys := false, apart := false }
def FontPutsSaid : Prop := fontPutsRow.holds Try.pinned (OpenSpec.ofChange fontPutsSpec)

/-- ITS FALSE NEIGHBOUR: 'it returns false'. Refute it at one input. -/
def fontPutsWrong : ChangeSpec := { name := "fontPuts", fn := fun _ => fun
  | [d] => { results := [.lit (.bool false)], args := [d] }
  | _ => none }
def FontPutsWrongFalsely : Prop := fontPutsRow.holds Try.pinned (OpenSpec.ofChange fontPutsWrong)

/-- 'platenlaw06.FontBack': WHATEVER THE INPUT: true; the input reads as it did. -/
def fontBackSpec : ChangeSpec := { name := "fontBack", fn := fun _ => fun
  | [d1, d2] => { results := [.lit (.bool true)], args := [d1, d2] }
  | _ => none }
def fontBackRow : OpenClaim := { program := "ythcfgechifogeaa", sum := "d90d2a670a25092b85d605a5318c304bcc64a191041e4b6aadb45a332200e1a1", func := "platen/platenlaw06.FontBack", spec := "fontBack", unfollowed := true, recurses := true, plainKeys := false, apart := false }
def FontBackSaid : Prop := fontBackRow.holds Try.pinned (OpenSpec.ofChange fontBackSpec)

/-- ITS FALSE NEIGHBOUR: 'it returns false'. Refute it at one input. -/
def fontBackWrong : ChangeSpec := { name := "fontBack", fn := fun _ => fun
  | [d1, d2] => { results := [.lit (.bool false)], args := [d1, d2] }
  | _ => none }
def FontBackWrongFalsely : Prop := fontBackRow.holds Try.pinned (OpenSpec.ofChange fontBackWrong)

/-- 'platenlaw06.FontTurned': WHATEVER THE INPUT: true; the input reads as it did. -/
def fontTurnedSpec : ChangeSpec := { name := "fontTurned", fn := fun _ => fun
  | [d1, d2, d3] => { results := [.lit (.bool true)], args := [d1, d2, d3] }
  | _ => none }
def fontTurnedRow : OpenClaim := { program := "ythcfgechifogeaa", sum := "d90d2a670a25092b85d605a5318c304bcc64a191041e4b6aadb45a332200e1a1", func := "platen/platenlaw06.FontTurned", spec := "fontTurned", unfollowed := true, recurses := true, plainKeys := false, apart := false }
def FontTurnedSaid : Prop := fontTurnedRow.holds Try.pinned (OpenSpec.ofChange fontTurnedSpec)

/-- ITS FALSE NEIGHBOUR: 'it returns false'. Refute it at one input. -/
def fontTurnedWrong : ChangeSpec := { name := "fontTurned", fn := fun _ => fun
  | [d1, d2, d3] => { results := [.lit (.bool false)], args := [d1, d2, d3] }
  | _ => none }
def FontTurnedWrongFalsely : Prop := fontTurnedRow.holds Try.pinned (OpenSpec.ofChange fontTurnedWrong)

/-- 'platenlaw06.FontNumbers': WHATEVER THE INPUT: true; the input reads as it did. -/
def fontNumbersSpec : ChangeSpec := { name := "fontNumbers", fn := fun _ => fun
  | [] => { results := [.lit (.bool true)], args := [] }
  | _ => none }
def fontNumbersRow : OpenClaim := { program := "ythcfgechifogeaa", sum := "d90d2a670a25092b85d605a5318c304bcc64a191041e4b6aadb45a332200e1a1", func := "platen/platenlaw06.FontNumbers", spec := "fontNumbers", unfollowed := true, recurses := true, plainKeys := false, apart := false }
def FontNumbersSaid : Prop := fontNumbersRow.holds Try.pinned (OpenSpec.ofChange fontNumbersSpec)

/-- ITS FALSE NEIGHBOUR: 'it returns false'. Refute it at one input. -/
def fontNumbersWrong : ChangeSpec := { name := "fontNumbers", fn := fun _ => fun
  | [] => { results := [.lit (.bool false)], args := [] }
  | _ => none }
def FontNumbersWrongFalsely : Prop := fontNumbersRow.holds Try.pinned (OpenSpec.ofChange fontNumbersWrong)

/-- 'platenlaw06.FontGets': WHATEVER THE INPUT: true; the input reads as it did. -/
def fontGetsSpec : ChangeSpec := { name := "fontGets", fn := fun _ => fun
  | [d1, d2, d3] => { results := [.lit (.bool true)], args := [d1, d2, d3] }
  | _ => none }
def fontGetsRow : OpenClaim := { program := "ythcfgechifogeaa", sum := "d90d2a670a25092b85d605a5318c304bcc64a191041e4b6aadb45a332200e1a1", func := "platen/platenlaw06.FontGets", spec := "fontGets", unfollowed := true, recurses := true, plainKeys := false, apart := false }
def FontGetsSaid : Prop := fontGetsRow.holds Try.pinned (OpenSpec.ofChange fontGetsSpec)

/-- ITS FALSE NEIGHBOUR: 'it returns false'. Refute it at one input. -/
def fontGetsWrong : ChangeSpec := { name := "fontGets", fn := fun _ => fun
  | [d1, d2, d3] => { results := [.lit (.bool false)], args := [d1, d2, d3] }
  | _ => none }
def FontGetsWrongFalsely : Prop := fontGetsRow.holds Try.pinned (OpenSpec.ofChange fontGetsWrong)

/- THE SECOND FORM. 'bulk': how many values and letters a reading holds, each counted each time it is reached (what is shared counts as often as it is met; a slice's spare places count too). A statement '..UptoSaid' is the law's where the arguments, and the package variables that the reading takes, are together of bulk at most 1048576: NARROWER than '..Said'. Prove '..Said' where nothing that the law and all that it calls make is longer than what came in: it says more and counts as full. Else prove '..UptoSaid'. A law counts once. -/
mutual
def uptoBulk {H : Type} : DataW H → Nat
  | .lit (.string bytes) => bytes.length + 1
  | .lit _ => 1
  | .nil => 1
  | .ptr d => uptoBulk d + 1
  | .slice elems spare => uptoBulkAll elems + uptoBulkAll spare + 1
  | .agg parts => uptoBulkAll parts + 1
  | .iface _ d => uptoBulk d + 1
  | .map entries => uptoBulkEntries entries + 1
  | .held _ => 1
def uptoBulkAll {H : Type} : List (DataW H) → Nat
  | [] => 0
  | d :: r => uptoBulk d + uptoBulkAll r
def uptoBulkEntries {H : Type} : List (Lit × DataW H) → Nat
  | [] => 0
  | x :: r => uptoBulkEntry x + uptoBulkEntries r
def uptoBulkEntry {H : Type} : Lit × DataW H → Nat
  | (.string bytes, d) => bytes.length + uptoBulk d + 1
  | (_, d) => uptoBulk d + 1
 end
def uptoSmall : (H : Type) → List (DataW H) → Bool := fun _ ds => decide (uptoBulkAll ds ≤ 1048576)
def OpenSpec.upto (s : _root_.Go.ChangeSpec) : _root_.Go.OpenSpec := { _root_.Go.OpenSpec.ofChange s with cond := some uptoSmall }

/-- 'platenlaw05.TableTells', WHERE WHAT IT READS IS OF BULK AT MOST 1048576: true; the input reads as it did. -/
def tableTellsUptoRow : OpenClaim := { program := "ythcfgechifogeaa", sum := "d90d2a670a25092b85d605a5318c304bcc64a191041e4b6aadb45a332200e1a1", func := "platen/platenlaw05.TableTells", spec := "tableTells", unfollowed := true, recurses := true, plainKeys := false, apart := false, narrowed := true }
def TableTellsUptoSaid : Prop := tableTellsUptoRow.holds Try.pinned (OpenSpec.upto tableTellsSpec)

/-- 'platenlaw05.TableGoes', WHERE WHAT IT READS IS OF BULK AT MOST 1048576: true; the input reads as it did. -/
def tableGoesUptoRow : OpenClaim := { program := "ythcfgechifogeaa", sum := "d90d2a670a25092b85d605a5318c304bcc64a191041e4b6aadb45a332200e1a1", func := "platen/platenlaw05.TableGoes", spec := "tableGoes", unfollowed := true, recurses := true, plainKeys := false, apart := false, narrowed := true }
def TableGoesUptoSaid : Prop := tableGoesUptoRow.holds Try.pinned (OpenSpec.upto tableGoesSpec)

/-- 'platenlaw05.TableFinds', WHERE WHAT IT READS IS OF BULK AT MOST 1048576: true; the input reads as it did. -/
def tableFindsUptoRow : OpenClaim := { program := "ythcfgechifogeaa", sum := "d90d2a670a25092b85d605a5318c304bcc64a191041e4b6aadb45a332200e1a1", func := "platen/platenlaw05.TableFinds", spec := "tableFinds", unfollowed := true, recurses := true, plainKeys := false, apart := false, narrowed := true }
def TableFindsUptoSaid : Prop := tableFindsUptoRow.holds Try.pinned (OpenSpec.upto tableFindsSpec)

/-- 'platenlaw05.TableNumbers', WHERE WHAT IT READS IS OF BULK AT MOST 1048576: true; the input reads as it did. -/
def tableNumbersUptoRow : OpenClaim := { program := "ythcfgechifogeaa", sum := "d90d2a670a25092b85d605a5318c304bcc64a191041e4b6aadb45a332200e1a1", func := "platen/platenlaw05.TableNumbers", spec := "tableNumbers", unfollowed := true, recurses := true, plainKeys := false, apart := false, narrowed := true }
def TableNumbersUptoSaid : Prop := tableNumbersUptoRow.holds Try.pinned (OpenSpec.upto tableNumbersSpec)

/-- 'platenlaw06.FontPuts', WHERE WHAT IT READS IS OF BULK AT MOST 1048576: true; the input reads as it did. -/
def fontPutsUptoRow : OpenClaim := { program := "ythcfgechifogeaa", sum := "d90d2a670a25092b85d605a5318c304bcc64a191041e4b6aadb45a332200e1a1", func := "platen/platenlaw06.FontPuts", spec := "fontPuts", unfollowed := true, recurses := true, plainKeys := false, apart := false, narrowed := true }
def FontPutsUptoSaid : Prop := fontPutsUptoRow.holds Try.pinned (OpenSpec.upto fontPutsSpec)

/-- 'platenlaw06.FontBack', WHERE WHAT IT READS IS OF BULK AT MOST 1048576: true; the input reads as it did. -/
def fontBackUptoRow : OpenClaim := { program := "ythcfgechifogeaa", sum := "d90d2a670a25092b85d605a5318c304bcc64a191041e4b6aadb45a332200e1a1", func := "platen/platenlaw06.FontBack", spec := "fontBack", unfollowed := true, recurses := true, plainKeys := false, apart := false, narrowed := true }
def FontBackUptoSaid : Prop := fontBackUptoRow.holds Try.pinned (OpenSpec.upto fontBackSpec)

/-- 'platenlaw06.FontTurned', WHERE WHAT IT READS IS OF BULK AT MOST 1048576: true; the input reads as it did. -/
def fontTurnedUptoRow : OpenClaim := { program := "ythcfgechifogeaa", sum := "d90d2a670a25092b85d605a5318c304bcc64a191041e4b6aadb45a332200e1a1", func := "platen/platenlaw06.FontTurned", spec := "fontTurned", unfollowed := true, recurses := true, plainKeys := false, apart := false, narrowed := true }
def FontTurnedUptoSaid : Prop := fontTurnedUptoRow.holds Try.pinned (OpenSpec.upto fontTurnedSpec)

/-- 'platenlaw06.FontNumbers', WHERE WHAT IT READS IS OF BULK AT MOST 1048576: true; the input reads as it did. -/
def fontNumbersUptoRow : OpenClaim := { program := "ythcfgechifogeaa", sum := "d90d2a670a25092b85d605a5318c304bcc64a191041e4b6aadb45a332200e1a1", func := "platen/platenlaw06.FontNumbers", spec := "fontNumbers", unfollowed := true, recurses := true, plainKeys := false, apart := false, narrowed := true }
def FontNumbersUptoSaid : Prop := fontNumbersUptoRow.holds Try.pinned (OpenSpec.upto fontNumbersSpec)

/-- 'platenlaw06.FontGets', WHERE WHAT IT READS IS OF BULK AT MOST 1048576: true; the input reads as it did. -/
def fontGetsUptoRow : OpenClaim := { program := "ythcfgechifogeaa", sum := "d90d2a670a25092b85d605a5318c304bcc64a191041e4b6aadb45a332200e1a1", func := "platen/platenlaw06.FontGets", spec := "fontGets", unfollowed := true, recurses := true, plainKeys := false, apart := false, narrowed := true }
def FontGetsUptoSaid : Prop := fontGetsUptoRow.holds Try.pinned (OpenSpec.upto fontGetsSpec)

end Rows
end Go.Proofs.Ythcfgechifogeaa
