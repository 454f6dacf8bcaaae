/-
  NARROWER THAN 'FOR EVERY INPUT', by the rows' own cells (each row's printed sentence says how): FaultNames: laid · FaultErrors: laid · FaultFound: laid · FaultNumbers: laid.
  DERIVED. THE GIVEN ROWS OF THIS SEAT. 4 by the template 'for every input the law returns true; each argument reads behind the call as it read before'; 0 by the template 'total and deterministic' (their statements: YtihiffemeodfhaaDoorTotals.lean).
  GIVEN WITH THE SEED: the statements are not yours to turn. If you find one false, say at which input.
  Laid BY PROGRAM, IN A SANDBOX (cutbox-rows.mjs): the forced cells as the released guide's own fill.sh prints them over the translation db8fc62a186c2a40… (all of the seat's roots in one cut). By AI agents, Wed Nov 11 2026. No macro, syntax, notation, axiom, sorry.
-/
import Derived.Test.YtihiffemeodfhaaDoorChecked
import GoSem.Claim
import GoSem.ClaimJoined
import GoSem.ClaimMapViews
import Derived.JoinedTies
import Derived.KernelRfl
namespace Go.Proofs.YtihiffemeodfhaaDoor
/- THE CELL 'sum', in the pinned program and in every row, IS THE sha256 OF THE DUMP (.gsa) THAT YtihiffemeodfhaaDoorProg.lean LOADS. Nothing in Lean hashes anything: it is a label: what it is worth is what the hold of that sum in a sandbox is worth. -/
noncomputable def Tryd.pinned : Pinned := { name := "ytihiffemeodfhaadoor", sum := "db8fc62a186c2a4097f8e3e29efc6ec3d93ae823f6aff9110fc7b4ca1c88f0cc", checked := Tryd.checked }
namespace Rows
def none {H : Type} : Left H := { results := [], args := [] }

/- WHAT THE LISTED PACKAGE-LEVEL VARIABLES READ AS WHEN THE CALL BEGINS. Each datum BY PROGRAM (the guide's laid-datum.mjs) off the statement by which the dump's own 'gosem.cut.vars' lays the variable. In a bare row this is a premise. The card (YtihiffemeodfhaaDoorCards.lean) ties it to the program's text. -/
def laid_errors_errorType {H : Type} : DataW H := .iface "internal/reflectlite.rtype" (.agg [.ptr (.lit (.string [101, 114, 114, 111, 114]))])
def laid_platen_fault_ErrBudget {H : Type} : DataW H := .iface "*errors.errorString" (.ptr (.agg [.lit (.string [98, 117, 100, 103, 101, 116])]))
def laid_platen_fault_ErrSyntax {H : Type} : DataW H := .iface "*errors.errorString" (.ptr (.agg [.lit (.string [115, 121, 110, 116, 97, 120])]))
def laid_platen_fault_ErrText {H : Type} : DataW H := .iface "*errors.errorString" (.ptr (.agg [.lit (.string [116, 101, 120, 116])]))
def laid_platen_fault_ErrFont {H : Type} : DataW H := .iface "*errors.errorString" (.ptr (.agg [.lit (.string [102, 111, 110, 116])]))
def laid_platen_fault_ErrLimit {H : Type} : DataW H := .iface "*errors.errorString" (.ptr (.agg [.lit (.string [108, 105, 109, 105, 116])]))
def laid_platen_fault_ErrRange {H : Type} : DataW H := .iface "*errors.errorString" (.ptr (.agg [.lit (.string [114, 97, 110, 103, 101])]))

/-- 'platenlaw03.FaultNames': WHATEVER THE INPUT: true; the input reads as it did. -/
def faultNamesSpec : ChangeSpec := { name := "faultNames", fn := fun _ => fun
  | [d] => { results := [.lit (.bool true)], args := [d] }
  | _ => none }
def faultNamesRow : OpenClaim := { program := "ytihiffemeodfhaadoor", sum := "db8fc62a186c2a4097f8e3e29efc6ec3d93ae823f6aff9110fc7b4ca1c88f0cc", func := "platen/platenlaw03.FaultNames", spec := "faultNames", inPlace := ["internal/reflectlite.ValueOf", "(internal/reflectlite.Value).Type", "(internal/reflectlite.Value).IsNil", "internal/reflectlite.TypeOf", "(internal/reflectlite.Value).Elem", "(internal/reflectlite.Value).Set"], unfollowed := true, recurses := true, named := ["platen/fault.ErrText", "platen/fault.ErrSyntax", "errors.errorType", "platen/fault.ErrBudget", "platen/fault.ErrFont", "platen/fault.ErrLimit", "platen/fault.ErrRange"], apart := false, laid := [("errors.errorType", laid_errors_errorType), ("platen/fault.ErrBudget", laid_platen_fault_ErrBudget), ("platen/fault.ErrSyntax", laid_platen_fault_ErrSyntax), ("platen/fault.ErrText", laid_platen_fault_ErrText), ("platen/fault.ErrFont", laid_platen_fault_ErrFont), ("platen/fault.ErrLimit", laid_platen_fault_ErrLimit), ("platen/fault.ErrRange", laid_platen_fault_ErrRange)] }
def FaultNamesSaid : Prop := faultNamesRow.holds Tryd.pinned (OpenSpec.ofChange faultNamesSpec)

/-- ITS FALSE NEIGHBOUR: 'it returns false'. Refute it at one input. -/
def faultNamesWrong : ChangeSpec := { name := "faultNames", fn := fun _ => fun
  | [d] => { results := [.lit (.bool false)], args := [d] }
  | _ => none }
def FaultNamesWrongFalsely : Prop := faultNamesRow.holds Tryd.pinned (OpenSpec.ofChange faultNamesWrong)

/-- 'platenlaw03.FaultErrors': WHATEVER THE INPUT: true; the input reads as it did. -/
def faultErrorsSpec : ChangeSpec := { name := "faultErrors", fn := fun _ => fun
  | [d1, d2, d3] => { results := [.lit (.bool true)], args := [d1, d2, d3] }
  | _ => none }
def faultErrorsRow : OpenClaim := { program := "ytihiffemeodfhaadoor", sum := "db8fc62a186c2a4097f8e3e29efc6ec3d93ae823f6aff9110fc7b4ca1c88f0cc", func := "platen/platenlaw03.FaultErrors", spec := "faultErrors", inPlace := ["internal/reflectlite.ValueOf", "(internal/reflectlite.Value).Type", "(internal/reflectlite.Value).IsNil", "internal/reflectlite.TypeOf", "(internal/reflectlite.Value).Elem", "(internal/reflectlite.Value).Set"], unfollowed := true, recurses := true, named := ["platen/fault.ErrText", "platen/fault.ErrSyntax", "errors.errorType", "platen/fault.ErrBudget", "platen/fault.ErrFont", "platen/fault.ErrLimit", "platen/fault.ErrRange"], apart := false, laid := [("errors.errorType", laid_errors_errorType), ("platen/fault.ErrBudget", laid_platen_fault_ErrBudget), ("platen/fault.ErrSyntax", laid_platen_fault_ErrSyntax), ("platen/fault.ErrText", laid_platen_fault_ErrText), ("platen/fault.ErrFont", laid_platen_fault_ErrFont), ("platen/fault.ErrLimit", laid_platen_fault_ErrLimit), ("platen/fault.ErrRange", laid_platen_fault_ErrRange)] }
def FaultErrorsSaid : Prop := faultErrorsRow.holds Tryd.pinned (OpenSpec.ofChange faultErrorsSpec)

/-- ITS FALSE NEIGHBOUR: 'it returns false'. Refute it at one input. -/
def faultErrorsWrong : ChangeSpec := { name := "faultErrors", fn := fun _ => fun
  | [d1, d2, d3] => { results := [.lit (.bool false)], args := [d1, d2, d3] }
  | _ => none }
def FaultErrorsWrongFalsely : Prop := faultErrorsRow.holds Tryd.pinned (OpenSpec.ofChange faultErrorsWrong)

/-- 'platenlaw03.FaultFound': WHATEVER THE INPUT: true; the input reads as it did. -/
def faultFoundSpec : ChangeSpec := { name := "faultFound", fn := fun _ => fun
  | [d1, d2, d3, d4, d5] => { results := [.lit (.bool true)], args := [d1, d2, d3, d4, d5] }
  | _ => none }
def faultFoundRow : OpenClaim := { program := "ytihiffemeodfhaadoor", sum := "db8fc62a186c2a4097f8e3e29efc6ec3d93ae823f6aff9110fc7b4ca1c88f0cc", func := "platen/platenlaw03.FaultFound", spec := "faultFound", inPlace := ["internal/reflectlite.ValueOf", "(internal/reflectlite.Value).Type", "(internal/reflectlite.Value).IsNil", "internal/reflectlite.TypeOf", "(internal/reflectlite.Value).Elem", "(internal/reflectlite.Value).Set"], unfollowed := true, recurses := true, named := ["platen/fault.ErrText", "platen/fault.ErrSyntax", "errors.errorType", "platen/fault.ErrBudget", "platen/fault.ErrFont", "platen/fault.ErrLimit", "platen/fault.ErrRange"], apart := false, laid := [("errors.errorType", laid_errors_errorType), ("platen/fault.ErrBudget", laid_platen_fault_ErrBudget), ("platen/fault.ErrSyntax", laid_platen_fault_ErrSyntax), ("platen/fault.ErrText", laid_platen_fault_ErrText), ("platen/fault.ErrFont", laid_platen_fault_ErrFont), ("platen/fault.ErrLimit", laid_platen_fault_ErrLimit), ("platen/fault.ErrRange", laid_platen_fault_ErrRange)] }
def FaultFoundSaid : Prop := faultFoundRow.holds Tryd.pinned (OpenSpec.ofChange faultFoundSpec)

/-- ITS FALSE NEIGHBOUR: 'it returns false'. Refute it at one input. -/
def faultFoundWrong : ChangeSpec := { name := "faultFound", fn := fun _ => fun
  | [d1, d2, d3, d4, d5] => { results := [.lit (.bool false)], args := [d1, d2, d3, d4, d5] }
  | _ => none }
def FaultFoundWrongFalsely : Prop := faultFoundRow.holds Tryd.pinned (OpenSpec.ofChange faultFoundWrong)

/-- 'platenlaw03.FaultNumbers': WHATEVER THE INPUT: true; the input reads as it did. -/
def faultNumbersSpec : ChangeSpec := { name := "faultNumbers", fn := fun _ => fun
  | [] => { results := [.lit (.bool true)], args := [] }
  | _ => none }
def faultNumbersRow : OpenClaim := { program := "ytihiffemeodfhaadoor", sum := "db8fc62a186c2a4097f8e3e29efc6ec3d93ae823f6aff9110fc7b4ca1c88f0cc", func := "platen/platenlaw03.FaultNumbers", spec := "faultNumbers", inPlace := ["internal/reflectlite.ValueOf", "(internal/reflectlite.Value).Type", "(internal/reflectlite.Value).IsNil", "internal/reflectlite.TypeOf", "(internal/reflectlite.Value).Elem", "(internal/reflectlite.Value).Set"], unfollowed := true, recurses := true, named := ["platen/fault.ErrText", "platen/fault.ErrSyntax", "errors.errorType"], apart := false, laid := [("errors.errorType", laid_errors_errorType), ("platen/fault.ErrSyntax", laid_platen_fault_ErrSyntax), ("platen/fault.ErrText", laid_platen_fault_ErrText)] }
def FaultNumbersSaid : Prop := faultNumbersRow.holds Tryd.pinned (OpenSpec.ofChange faultNumbersSpec)

/-- ITS FALSE NEIGHBOUR: 'it returns false'. Refute it at one input. -/
def faultNumbersWrong : ChangeSpec := { name := "faultNumbers", fn := fun _ => fun
  | [] => { results := [.lit (.bool false)], args := [] }
  | _ => none }
def FaultNumbersWrongFalsely : Prop := faultNumbersRow.holds Tryd.pinned (OpenSpec.ofChange faultNumbersWrong)

/- THE SECOND FORM. 'bulk': how many values and letters a reading holds, each counted each time it is reached (what is shared counts as often as it is met; a slice's spare places count too). A statement '..UptoSaid' is the law's where the arguments, and the package variables that the reading takes, are together of bulk at most 1048576: NARROWER than '..Said'. Prove '..Said' where nothing that the law and all that it calls make is longer than what came in: it says more and counts as full. Else prove '..UptoSaid'. A law counts once. -/
mutual
def uptoBulk {H : Type} : DataW H → Nat
  | .lit (.string bytes) => bytes.length + 1
  | .lit _ => 1
  | .nil => 1
  | .ptr d => uptoBulk d + 1
  | .slice elems spare => uptoBulkAll elems + uptoBulkAll spare + 1
  | .agg parts => uptoBulkAll parts + 1
  | .iface _ d => uptoBulk d + 1
  | .map entries => uptoBulkEntries entries + 1
  | .held _ => 1
def uptoBulkAll {H : Type} : List (DataW H) → Nat
  | [] => 0
  | d :: r => uptoBulk d + uptoBulkAll r
def uptoBulkEntries {H : Type} : List (Lit × DataW H) → Nat
  | [] => 0
  | x :: r => uptoBulkEntry x + uptoBulkEntries r
def uptoBulkEntry {H : Type} : Lit × DataW H → Nat
  | (.string bytes, d) => bytes.length + uptoBulk d + 1
  | (_, d) => uptoBulk d + 1
 end
def uptoSmall : (H : Type) → List (DataW H) → Bool := fun _ ds => decide (uptoBulkAll ds ≤ 1048576)
def OpenSpec.upto (s : _root_.Go.ChangeSpec) : _root_.Go.OpenSpec := { _root_.Go.OpenSpec.ofChange s with cond := some uptoSmall }

/-- 'platenlaw03.FaultNames', WHERE WHAT IT READS IS OF BULK AT MOST 1048576: true; the input reads as it did. -/
def faultNamesUptoRow : OpenClaim := { program := "ytihiffemeodfhaadoor", sum := "db8fc62a186c2a4097f8e3e29efc6ec3d93ae823f6aff9110fc7b4ca1c88f0cc", func := "platen/platenlaw03.FaultNames", spec := "faultNames", inPlace := ["internal/reflectlite.ValueOf", "(internal/reflectlite.Value).Type", "(internal/reflectlite.Value).IsNil", "internal/reflectlite.TypeOf", "(internal/reflectlite.Value).Elem", "(internal/reflectlite.Value).Set"], unfollowed := true, recurses := true, named := ["platen/fault.ErrText", "platen/fault.ErrSyntax", "errors.errorType", "platen/fault.ErrBudget", "platen/fault.ErrFont", "platen/fault.ErrLimit", "platen/fault.ErrRange"], apart := false, laid := [("errors.errorType", laid_errors_errorType), ("platen/fault.ErrBudget", laid_platen_fault_ErrBudget), ("platen/fault.ErrSyntax", laid_platen_fault_ErrSyntax), ("platen/fault.ErrText", laid_platen_fault_ErrText), ("platen/fault.ErrFont", laid_platen_fault_ErrFont), ("platen/fault.ErrLimit", laid_platen_fault_ErrLimit), ("platen/fault.ErrRange", laid_platen_fault_ErrRange)], narrowed := true }
def FaultNamesUptoSaid : Prop := faultNamesUptoRow.holds Tryd.pinned (OpenSpec.upto faultNamesSpec)

/-- 'platenlaw03.FaultErrors', WHERE WHAT IT READS IS OF BULK AT MOST 1048576: true; the input reads as it did. -/
def faultErrorsUptoRow : OpenClaim := { program := "ytihiffemeodfhaadoor", sum := "db8fc62a186c2a4097f8e3e29efc6ec3d93ae823f6aff9110fc7b4ca1c88f0cc", func := "platen/platenlaw03.FaultErrors", spec := "faultErrors", inPlace := ["internal/reflectlite.ValueOf", "(internal/reflectlite.Value).Type", "(internal/reflectlite.Value).IsNil", "internal/reflectlite.TypeOf", "(internal/reflectlite.Value).Elem", "(internal/reflectlite.Value).Set"], unfollowed := true, recurses := true, named := ["platen/fault.ErrText", "platen/fault.ErrSyntax", "errors.errorType", "platen/fault.ErrBudget", "platen/fault.ErrFont", "platen/fault.ErrLimit", "platen/fault.ErrRange"], apart := false, laid := [("errors.errorType", laid_errors_errorType), ("platen/fault.ErrBudget", laid_platen_fault_ErrBudget), ("platen/fault.ErrSyntax", laid_platen_fault_ErrSyntax), ("platen/fault.ErrText", laid_platen_fault_ErrText), ("platen/fault.ErrFont", laid_platen_fault_ErrFont), ("platen/fault.ErrLimit", laid_platen_fault_ErrLimit), ("platen/fault.ErrRange", laid_platen_fault_ErrRange)], narrowed := true }
def FaultErrorsUptoSaid : Prop := faultErrorsUptoRow.holds Tryd.pinned (OpenSpec.upto faultErrorsSpec)

/-- 'platenlaw03.FaultFound', WHERE WHAT IT READS IS OF BULK AT MOST 1048576: true; the input reads as it did. -/
def faultFoundUptoRow : OpenClaim := { program := "ytihiffemeodfhaadoor", sum := "db8fc62a186c2a4097f8e3e29efc6ec3d93ae823f6aff9110fc7b4ca1c88f0cc", func := "platen/platenlaw03.FaultFound", spec := "faultFound", inPlace := ["internal/reflectlite.ValueOf", "(internal/reflectlite.Value).Type", "(internal/reflectlite.Value).IsNil", "internal/reflectlite.TypeOf", "(internal/reflectlite.Value).Elem", "(internal/reflectlite.Value).Set"], unfollowed := true, recurses := true, named := ["platen/fault.ErrText", "platen/fault.ErrSyntax", "errors.errorType", "platen/fault.ErrBudget", "platen/fault.ErrFont", "platen/fault.ErrLimit", "platen/fault.ErrRange"], apart := false, laid := [("errors.errorType", laid_errors_errorType), ("platen/fault.ErrBudget", laid_platen_fault_ErrBudget), ("platen/fault.ErrSyntax", laid_platen_fault_ErrSyntax), ("platen/fault.ErrText", laid_platen_fault_ErrText), ("platen/fault.ErrFont", laid_platen_fault_ErrFont), ("platen/fault.ErrLimit", laid_platen_fault_ErrLimit), ("platen/fault.ErrRange", laid_platen_fault_ErrRange)], narrowed := true }
def FaultFoundUptoSaid : Prop := faultFoundUptoRow.holds Tryd.pinned (OpenSpec.upto faultFoundSpec)

/-- 'platenlaw03.FaultNumbers', WHERE WHAT IT READS IS OF BULK AT MOST 1048576: true; the input reads as it did. -/
def faultNumbersUptoRow : OpenClaim := { program := "ytihiffemeodfhaadoor", sum := "db8fc62a186c2a4097f8e3e29efc6ec3d93ae823f6aff9110fc7b4ca1c88f0cc", func := "platen/platenlaw03.FaultNumbers", spec := "faultNumbers", inPlace := ["internal/reflectlite.ValueOf", "(internal/reflectlite.Value).Type", "(internal/reflectlite.Value).IsNil", "internal/reflectlite.TypeOf", "(internal/reflectlite.Value).Elem", "(internal/reflectlite.Value).Set"], unfollowed := true, recurses := true, named := ["platen/fault.ErrText", "platen/fault.ErrSyntax", "errors.errorType"], apart := false, laid := [("errors.errorType", laid_errors_errorType), ("platen/fault.ErrSyntax", laid_platen_fault_ErrSyntax), ("platen/fault.ErrText", laid_platen_fault_ErrText)], narrowed := true }
def FaultNumbersUptoSaid : Prop := faultNumbersUptoRow.holds Tryd.pinned (OpenSpec.upto faultNumbersSpec)

end Rows
end Go.Proofs.YtihiffemeodfhaaDoor
