/-
  No cell of these rows narrows 'for every input' (looked for: loops, veiled, ifaces, maps, wideKeys, modest, calm, conditions, laid).
  DERIVED. THE GIVEN ROWS OF THIS SEAT. 5 by the template 'for every input the law returns true; each argument reads behind the call as it read before'; 0 by the template 'total and deterministic' (their statements: YtldckefnelgdgaaTotals.lean).
  GIVEN WITH THE SEED: the statements are not yours to turn. If you find one false, say at which input.
  Laid BY PROGRAM, IN A SANDBOX (cutbox-rows.mjs): the forced cells as the released guide's own fill.sh prints them over the translation 90a4a1d5aba1faf1… (all of the seat's roots in one cut). By AI agents, Wed Nov 11 2026. No macro, syntax, notation, axiom, sorry.
-/
import Derived.Test.YtldckefnelgdgaaChecked
import GoSem.Claim
import GoSem.ClaimJoined
import GoSem.ClaimMapViews
import Derived.JoinedTies
import Derived.KernelRfl
namespace Go.Proofs.Ytldckefnelgdgaa
/- THE CELL 'sum', in the pinned program and in every row, IS THE sha256 OF THE DUMP (.gsa) THAT YtldckefnelgdgaaProg.lean LOADS. Nothing in Lean hashes anything: it is a label: what it is worth is what the hold of that sum in a sandbox is worth. -/
noncomputable def Try.pinned : Pinned := { name := "ytldckefnelgdgaa", sum := "90a4a1d5aba1faf173c593ba1e8e1abdbf60e50409d43f9fb26ceeaddc928348", checked := Try.checked }
namespace Rows
def none {H : Type} : Left H := { results := [], args := [] }

/-- 'platenlaw01.FixShares': WHATEVER THE INPUT: true; the input reads as it did. -/
def fixSharesSpec : ChangeSpec := { name := "fixShares", fn := fun _ => fun
  | [d1, d2, d3, d4] => { results := [.lit (.bool true)], args := [d1, d2, d3, d4] }
  | _ => none }
def fixSharesRow : OpenClaim := { program := "ytldckefnelgdgaa", sum := "90a4a1d5aba1faf173c593ba1e8e1abdbf60e50409d43f9fb26ceeaddc928348", func := "platen/platenlaw01.FixShares", spec := "fixShares", unfollowed := true, recurses := true, named := ["math/bits.divideError", "math/bits.overflowError"], apart := false }
def FixSharesSaid : Prop := fixSharesRow.holds Try.pinned (OpenSpec.ofChange fixSharesSpec)

/-- ITS FALSE NEIGHBOUR: 'it returns false'. Refute it at one input. -/
def fixSharesWrong : ChangeSpec := { name := "fixShares", fn := fun _ => fun
  | [d1, d2, d3, d4] => { results := [.lit (.bool false)], args := [d1, d2, d3, d4] }
  | _ => none }
def FixSharesWrongFalsely : Prop := fixSharesRow.holds Try.pinned (OpenSpec.ofChange fixSharesWrong)

/-- 'platenlaw01.FixWhole': WHATEVER THE INPUT: true; the input reads as it did. -/
def fixWholeSpec : ChangeSpec := { name := "fixWhole", fn := fun _ => fun
  | [d1, d2] => { results := [.lit (.bool true)], args := [d1, d2] }
  | _ => none }
def fixWholeRow : OpenClaim := { program := "ytldckefnelgdgaa", sum := "90a4a1d5aba1faf173c593ba1e8e1abdbf60e50409d43f9fb26ceeaddc928348", func := "platen/platenlaw01.FixWhole", spec := "fixWhole", unfollowed := true, recurses := true, named := ["math/bits.divideError", "math/bits.overflowError"], apart := false }
def FixWholeSaid : Prop := fixWholeRow.holds Try.pinned (OpenSpec.ofChange fixWholeSpec)

/-- ITS FALSE NEIGHBOUR: 'it returns false'. Refute it at one input. -/
def fixWholeWrong : ChangeSpec := { name := "fixWhole", fn := fun _ => fun
  | [d1, d2] => { results := [.lit (.bool false)], args := [d1, d2] }
  | _ => none }
def FixWholeWrongFalsely : Prop := fixWholeRow.holds Try.pinned (OpenSpec.ofChange fixWholeWrong)

/-- 'platenlaw01.FixNear': WHATEVER THE INPUT: true; the input reads as it did. -/
def fixNearSpec : ChangeSpec := { name := "fixNear", fn := fun _ => fun
  | [d1, d2, d3] => { results := [.lit (.bool true)], args := [d1, d2, d3] }
  | _ => none }
def fixNearRow : OpenClaim := { program := "ytldckefnelgdgaa", sum := "90a4a1d5aba1faf173c593ba1e8e1abdbf60e50409d43f9fb26ceeaddc928348", func := "platen/platenlaw01.FixNear", spec := "fixNear", unfollowed := true, recurses := true, named := ["math/bits.divideError", "math/bits.overflowError"], apart := false }
def FixNearSaid : Prop := fixNearRow.holds Try.pinned (OpenSpec.ofChange fixNearSpec)

/-- ITS FALSE NEIGHBOUR: 'it returns false'. Refute it at one input. -/
def fixNearWrong : ChangeSpec := { name := "fixNear", fn := fun _ => fun
  | [d1, d2, d3] => { results := [.lit (.bool false)], args := [d1, d2, d3] }
  | _ => none }
def FixNearWrongFalsely : Prop := fixNearRow.holds Try.pinned (OpenSpec.ofChange fixNearWrong)

/-- 'platenlaw01.FixNumbers': WHATEVER THE INPUT: true; the input reads as it did. -/
def fixNumbersSpec : ChangeSpec := { name := "fixNumbers", fn := fun _ => fun
  | [] => { results := [.lit (.bool true)], args := [] }
  | _ => none }
def fixNumbersRow : OpenClaim := { program := "ytldckefnelgdgaa", sum := "90a4a1d5aba1faf173c593ba1e8e1abdbf60e50409d43f9fb26ceeaddc928348", func := "platen/platenlaw01.FixNumbers", spec := "fixNumbers", unfollowed := true, recurses := true, named := ["math/bits.divideError", "math/bits.overflowError"], apart := false }
def FixNumbersSaid : Prop := fixNumbersRow.holds Try.pinned (OpenSpec.ofChange fixNumbersSpec)

/-- ITS FALSE NEIGHBOUR: 'it returns false'. Refute it at one input. -/
def fixNumbersWrong : ChangeSpec := { name := "fixNumbers", fn := fun _ => fun
  | [] => { results := [.lit (.bool false)], args := [] }
  | _ => none }
def FixNumbersWrongFalsely : Prop := fixNumbersRow.holds Try.pinned (OpenSpec.ofChange fixNumbersWrong)

/-- 'platenlaw01.FixPlays': WHATEVER THE INPUT: true; the input reads as it did. -/
def fixPlaysSpec : ChangeSpec := { name := "fixPlays", fn := fun _ => fun
  | [d] => { results := [.lit (.bool true)], args := [d] }
  | _ => none }
def fixPlaysRow : OpenClaim := { program := "ytldckefnelgdgaa", sum := "90a4a1d5aba1faf173c593ba1e8e1abdbf60e50409d43f9fb26ceeaddc928348", func := "platen/platenlaw01.FixPlays", spec := "fixPlays", unfollowed := true, recurses := true, named := ["math/bits.divideError", "math/bits.overflowError"], apart := false }
def FixPlaysSaid : Prop := fixPlaysRow.holds Try.pinned (OpenSpec.ofChange fixPlaysSpec)

/-- ITS FALSE NEIGHBOUR: 'it returns false'. Refute it at one input. -/
def fixPlaysWrong : ChangeSpec := { name := "fixPlays", fn := fun _ => fun
  | [d] => { results := [.lit (.bool false)], args := [d] }
  | _ => none }
def FixPlaysWrongFalsely : Prop := fixPlaysRow.holds Try.pinned (OpenSpec.ofChange fixPlaysWrong)

/- THE SECOND FORM. 'bulk': how many values and letters a reading holds, each counted each time it is reached (what is shared counts as often as it is met; a slice's spare places count too). A statement '..UptoSaid' is the law's where the arguments, and the package variables that the reading takes, are together of bulk at most 1048576: NARROWER than '..Said'. Prove '..Said' where nothing that the law and all that it calls make is longer than what came in: it says more and counts as full. Else prove '..UptoSaid'. A law counts once. -/
mutual
def uptoBulk {H : Type} : DataW H → Nat
  | .lit (.string bytes) => bytes.length + 1
  | .lit _ => 1
  | .nil => 1
  | .ptr d => uptoBulk d + 1
  | .slice elems spare => uptoBulkAll elems + uptoBulkAll spare + 1
  | .agg parts => uptoBulkAll parts + 1
  | .iface _ d => uptoBulk d + 1
  | .map entries => uptoBulkEntries entries + 1
  | .held _ => 1
def uptoBulkAll {H : Type} : List (DataW H) → Nat
  | [] => 0
  | d :: r => uptoBulk d + uptoBulkAll r
def uptoBulkEntries {H : Type} : List (Lit × DataW H) → Nat
  | [] => 0
  | x :: r => uptoBulkEntry x + uptoBulkEntries r
def uptoBulkEntry {H : Type} : Lit × DataW H → Nat
  | (.string bytes, d) => bytes.length + uptoBulk d + 1
  | (_, d) => uptoBulk d + 1
 end
def uptoSmall : (H : Type) → List (DataW H) → Bool := fun _ ds => decide (uptoBulkAll ds ≤ 1048576)
def OpenSpec.upto (s : _root_.Go.ChangeSpec) : _root_.Go.OpenSpec := { _root_.Go.OpenSpec.ofChange s with cond := some uptoSmall }

/-- 'platenlaw01.FixShares', WHERE WHAT IT READS IS OF BULK AT MOST 1048576: true; the input reads as it did. -/
def fixSharesUptoRow : OpenClaim := { program := "ytldckefnelgdgaa", sum := "90a4a1d5aba1faf173c593ba1e8e1abdbf60e50409d43f9fb26ceeaddc928348", func := "platen/platenlaw01.FixShares", spec := "fixShares", unfollowed := true, recurses := true, named := ["math/bits.divideError", "math/bits.overflowError"], apart := false, narrowed := true }
def FixSharesUptoSaid : Prop := fixSharesUptoRow.holds Try.pinned (OpenSpec.upto fixSharesSpec)

/-- 'platenlaw01.FixWhole', WHERE WHAT IT READS IS OF BULK AT MOST 1048576: true; the input reads as it did. -/
def fixWholeUptoRow : OpenClaim := { program := "ytldckefnelgdgaa", sum := "90a4a1d5aba1faf173c593ba1e8e1abdbf60e50409d43f9fb26ceeaddc928348", func := "platen/platenlaw01.FixWhole", spec := "fixWhole", unfollowed := true, recurses := true, named := ["math/bits.divideError", "math/bits.overflowError"], apart := false, narrowed := true }
def FixWholeUptoSaid : Prop := fixWholeUptoRow.holds Try.pinned (OpenSpec.upto fixWholeSpec)

/-- 'platenlaw01.FixNear', WHERE WHAT IT READS IS OF BULK AT MOST 1048576: true; the input reads as it did. -/
def fixNearUptoRow : OpenClaim := { program := "ytldckefnelgdgaa", sum := "90a4a1d5aba1faf173c593ba1e8e1abdbf60e50409d43f9fb26ceeaddc928348", func := "platen/platenlaw01.FixNear", spec := "fixNear", unfollowed := true, recurses := true, named := ["math/bits.divideError", "math/bits.overflowError"], apart := false, narrowed := true }
def FixNearUptoSaid : Prop := fixNearUptoRow.holds Try.pinned (OpenSpec.upto fixNearSpec)

/-- 'platenlaw01.FixNumbers', WHERE WHAT IT READS IS OF BULK AT MOST 1048576: true; the input reads as it did. -/
def fixNumbersUptoRow : OpenClaim := { program := "ytldckefnelgdgaa", sum := "90a4a1d5aba1faf173c593ba1e8e1abdbf60e50409d43f9fb26ceeaddc928348", func := "platen/platenlaw01.FixNumbers", spec := "fixNumbers", unfollowed := true, recurses := true, named := ["math/bits.divideError", "math/bits.overflowError"], apart := false, narrowed := true }
def FixNumbersUptoSaid : Prop := fixNumbersUptoRow.holds Try.pinned (OpenSpec.upto fixNumbersSpec)

/-- 'platenlaw01.FixPlays', WHERE WHAT IT READS IS OF BULK AT MOST 1048576: true; the input reads as it did. -/
def fixPlaysUptoRow : OpenClaim := { program := "ytldckefnelgdgaa", sum := "90a4a1d5aba1faf173c593ba1e8e1abdbf60e50409d43f9fb26ceeaddc928348", func := "platen/platenlaw01.FixPlays", spec := "fixPlays", unfollowed := true, recurses := true, named := ["math/bits.divideError", "math/bits.overflowError"], apart := false, narrowed := true }
def FixPlaysUptoSaid : Prop := fixPlaysUptoRow.holds Try.pinned (OpenSpec.upto fixPlaysSpec)

end Rows
end Go.Proofs.Ytldckefnelgdgaa
