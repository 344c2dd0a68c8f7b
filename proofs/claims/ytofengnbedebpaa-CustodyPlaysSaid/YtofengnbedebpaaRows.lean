/-
  No cell of these rows narrows 'for every input' (looked for: loops, veiled, ifaces, maps, wideKeys, modest, calm, conditions, laid).
  DERIVED. THE GIVEN ROWS OF THIS SEAT. 5 by the template 'for every input the law returns true; each argument reads behind the call as it read before'; 0 by the template 'total and deterministic' (their statements: YtofengnbedebpaaTotals.lean).
  GIVEN WITH THE SEED: the statements are not yours to turn. If you find one false, say at which input.
  Laid BY PROGRAM, IN A SANDBOX (cutbox-rows.mjs): the forced cells as the released guide's own fill.sh prints them over the translation 446b1169bec98dd0… (all of the seat's roots in one cut). By AI agents, Wed Nov 11 2026. No macro, syntax, notation, axiom, sorry.
-/
import Derived.Test.YtofengnbedebpaaChecked
import GoSem.Claim
import GoSem.ClaimJoined
import GoSem.ClaimMapViews
import Derived.JoinedTies
import Derived.KernelRfl
namespace Go.Proofs.Ytofengnbedebpaa
/- THE CELL 'sum', in the pinned program and in every row, IS THE sha256 OF THE DUMP (.gsa) THAT YtofengnbedebpaaProg.lean LOADS. Nothing in Lean hashes anything: it is a label: what it is worth is what the hold of that sum in a sandbox is worth. -/
noncomputable def Try.pinned : Pinned := { name := "ytofengnbedebpaa", sum := "446b1169bec98dd09412bb719413f053b3dfda1a36c8dfe3859b3eeaa6cdff5d", checked := Try.checked }
namespace Rows
def none {H : Type} : Left H := { results := [], args := [] }

/-- 'caravanlaw18.CustodyApart': WHATEVER THE INPUT: true; the input reads as it did. -/
def custodyApartSpec : ChangeSpec := { name := "custodyApart", fn := fun _ => fun
  | [d1, d2] => { results := [.lit (.bool true)], args := [d1, d2] }
  | _ => none }
def custodyApartRow : OpenClaim := { program := "ytofengnbedebpaa", sum := "446b1169bec98dd09412bb719413f053b3dfda1a36c8dfe3859b3eeaa6cdff5d", func := "caravan/caravanlaw18.CustodyApart", spec := "custodyApart", inPlace := ["internal/abi.NoEscape"], unfollowed := true, recurses := true, apart := false }
def CustodyApartSaid : Prop := custodyApartRow.holds Try.pinned (OpenSpec.ofChange custodyApartSpec)

/-- ITS FALSE NEIGHBOUR: 'it returns false'. Refute it at one input. -/
def custodyApartWrong : ChangeSpec := { name := "custodyApart", fn := fun _ => fun
  | [d1, d2] => { results := [.lit (.bool false)], args := [d1, d2] }
  | _ => none }
def CustodyApartWrongFalsely : Prop := custodyApartRow.holds Try.pinned (OpenSpec.ofChange custodyApartWrong)

/-- 'caravanlaw18.CustodyAnew': WHATEVER THE INPUT: true; the input reads as it did. -/
def custodyAnewSpec : ChangeSpec := { name := "custodyAnew", fn := fun _ => fun
  | [d1, d2, d3] => { results := [.lit (.bool true)], args := [d1, d2, d3] }
  | _ => none }
def custodyAnewRow : OpenClaim := { program := "ytofengnbedebpaa", sum := "446b1169bec98dd09412bb719413f053b3dfda1a36c8dfe3859b3eeaa6cdff5d", func := "caravan/caravanlaw18.CustodyAnew", spec := "custodyAnew", inPlace := ["internal/abi.NoEscape"], unfollowed := true, recurses := true, apart := false }
def CustodyAnewSaid : Prop := custodyAnewRow.holds Try.pinned (OpenSpec.ofChange custodyAnewSpec)

/-- ITS FALSE NEIGHBOUR: 'it returns false'. Refute it at one input. -/
def custodyAnewWrong : ChangeSpec := { name := "custodyAnew", fn := fun _ => fun
  | [d1, d2, d3] => { results := [.lit (.bool false)], args := [d1, d2, d3] }
  | _ => none }
def CustodyAnewWrongFalsely : Prop := custodyAnewRow.holds Try.pinned (OpenSpec.ofChange custodyAnewWrong)

/-- 'caravanlaw18.CustodyMarks': WHATEVER THE INPUT: true; the input reads as it did. -/
def custodyMarksSpec : ChangeSpec := { name := "custodyMarks", fn := fun _ => fun
  | [d] => { results := [.lit (.bool true)], args := [d] }
  | _ => none }
def custodyMarksRow : OpenClaim := { program := "ytofengnbedebpaa", sum := "446b1169bec98dd09412bb719413f053b3dfda1a36c8dfe3859b3eeaa6cdff5d", func := "caravan/caravanlaw18.CustodyMarks", spec := "custodyMarks", inPlace := ["internal/abi.NoEscape"], unfollowed := true, recurses := true, apart := false }
def CustodyMarksSaid : Prop := custodyMarksRow.holds Try.pinned (OpenSpec.ofChange custodyMarksSpec)

/-- ITS FALSE NEIGHBOUR: 'it returns false'. Refute it at one input. -/
def custodyMarksWrong : ChangeSpec := { name := "custodyMarks", fn := fun _ => fun
  | [d] => { results := [.lit (.bool false)], args := [d] }
  | _ => none }
def CustodyMarksWrongFalsely : Prop := custodyMarksRow.holds Try.pinned (OpenSpec.ofChange custodyMarksWrong)

/-- 'caravanlaw18.CustodyPlays': WHATEVER THE INPUT: true; the input reads as it did. -/
def custodyPlaysSpec : ChangeSpec := { name := "custodyPlays", fn := fun _ => fun
  | [d1, d2] => { results := [.lit (.bool true)], args := [d1, d2] }
  | _ => none }
def custodyPlaysRow : OpenClaim := { program := "ytofengnbedebpaa", sum := "446b1169bec98dd09412bb719413f053b3dfda1a36c8dfe3859b3eeaa6cdff5d", func := "caravan/caravanlaw18.CustodyPlays", spec := "custodyPlays", inPlace := ["internal/abi.NoEscape"], unfollowed := true, recurses := true, apart := false }
def CustodyPlaysSaid : Prop := custodyPlaysRow.holds Try.pinned (OpenSpec.ofChange custodyPlaysSpec)

/-- ITS FALSE NEIGHBOUR: 'it returns false'. Refute it at one input. -/
def custodyPlaysWrong : ChangeSpec := { name := "custodyPlays", fn := fun _ => fun
  | [d1, d2] => { results := [.lit (.bool false)], args := [d1, d2] }
  | _ => none }
def CustodyPlaysWrongFalsely : Prop := custodyPlaysRow.holds Try.pinned (OpenSpec.ofChange custodyPlaysWrong)

/-- 'caravanlaw18.CustodyNil': WHATEVER THE INPUT: true; the input reads as it did. -/
def custodyNilSpec : ChangeSpec := { name := "custodyNil", fn := fun _ => fun
  | [d] => { results := [.lit (.bool true)], args := [d] }
  | _ => none }
def custodyNilRow : OpenClaim := { program := "ytofengnbedebpaa", sum := "446b1169bec98dd09412bb719413f053b3dfda1a36c8dfe3859b3eeaa6cdff5d", func := "caravan/caravanlaw18.CustodyNil", spec := "custodyNil", inPlace := ["internal/abi.NoEscape"], unfollowed := true, recurses := true, apart := false }
def CustodyNilSaid : Prop := custodyNilRow.holds Try.pinned (OpenSpec.ofChange custodyNilSpec)

/-- ITS FALSE NEIGHBOUR: 'it returns false'. Refute it at one input. -/
def custodyNilWrong : ChangeSpec := { name := "custodyNil", fn := fun _ => fun
  | [d] => { results := [.lit (.bool false)], args := [d] }
  | _ => none }
def CustodyNilWrongFalsely : Prop := custodyNilRow.holds Try.pinned (OpenSpec.ofChange custodyNilWrong)

/- THE SECOND FORM. 'bulk': how many values and letters a reading holds, each counted each time it is reached (what is shared counts as often as it is met; a slice's spare places count too). A statement '..UptoSaid' is the law's where the arguments, and the package variables that the reading takes, are together of bulk at most 1048576: NARROWER than '..Said'. Prove '..Said' where nothing that the law and all that it calls make is longer than what came in: it says more and counts as full. Else prove '..UptoSaid'. A law counts once. -/
mutual
def uptoBulk {H : Type} : DataW H → Nat
  | .lit (.string bytes) => bytes.length + 1
  | .lit _ => 1
  | .nil => 1
  | .ptr d => uptoBulk d + 1
  | .slice elems spare => uptoBulkAll elems + uptoBulkAll spare + 1
  | .agg parts => uptoBulkAll parts + 1
  | .iface _ d => uptoBulk d + 1
  | .map entries => uptoBulkEntries entries + 1
  | .held _ => 1
def uptoBulkAll {H : Type} : List (DataW H) → Nat
  | [] => 0
  | d :: r => uptoBulk d + uptoBulkAll r
def uptoBulkEntries {H : Type} : List (Lit × DataW H) → Nat
  | [] => 0
  | x :: r => uptoBulkEntry x + uptoBulkEntries r
def uptoBulkEntry {H : Type} : Lit × DataW H → Nat
  | (.string bytes, d) => bytes.length + uptoBulk d + 1
  | (_, d) => uptoBulk d + 1
 end
def uptoSmall : (H : Type) → List (DataW H) → Bool := fun _ ds => decide (uptoBulkAll ds ≤ 1048576)
def OpenSpec.upto (s : _root_.Go.ChangeSpec) : _root_.Go.OpenSpec := { _root_.Go.OpenSpec.ofChange s with cond := some uptoSmall }

/-- 'caravanlaw18.CustodyApart', WHERE WHAT IT READS IS OF BULK AT MOST 1048576: true; the input reads as it did. -/
def custodyApartUptoRow : OpenClaim := { program := "ytofengnbedebpaa", sum := "446b1169bec98dd09412bb719413f053b3dfda1a36c8dfe3859b3eeaa6cdff5d", func := "caravan/caravanlaw18.CustodyApart", spec := "custodyApart", inPlace := ["internal/abi.NoEscape"], unfollowed := true, recurses := true, apart := false, narrowed := true }
def CustodyApartUptoSaid : Prop := custodyApartUptoRow.holds Try.pinned (OpenSpec.upto custodyApartSpec)

/-- 'caravanlaw18.CustodyAnew', WHERE WHAT IT READS IS OF BULK AT MOST 1048576: true; the input reads as it did. -/
def custodyAnewUptoRow : OpenClaim := { program := "ytofengnbedebpaa", sum := "446b1169bec98dd09412bb719413f053b3dfda1a36c8dfe3859b3eeaa6cdff5d", func := "caravan/caravanlaw18.CustodyAnew", spec := "custodyAnew", inPlace := ["internal/abi.NoEscape"], unfollowed := true, recurses := true, apart := false, narrowed := true }
def CustodyAnewUptoSaid : Prop := custodyAnewUptoRow.holds Try.pinned (OpenSpec.upto custodyAnewSpec)

/-- 'caravanlaw18.CustodyMarks', WHERE WHAT IT READS IS OF BULK AT MOST 1048576: true; the input reads as it did. -/
def custodyMarksUptoRow : OpenClaim := { program := "ytofengnbedebpaa", sum := "446b1169bec98dd09412bb719413f053b3dfda1a36c8dfe3859b3eeaa6cdff5d", func := "caravan/caravanlaw18.CustodyMarks", spec := "custodyMarks", inPlace := ["internal/abi.NoEscape"], unfollowed := true, recurses := true, apart := false, narrowed := true }
def CustodyMarksUptoSaid : Prop := custodyMarksUptoRow.holds Try.pinned (OpenSpec.upto custodyMarksSpec)

/-- 'caravanlaw18.CustodyPlays', WHERE WHAT IT READS IS OF BULK AT MOST 1048576: true; the input reads as it did. -/
def custodyPlaysUptoRow : OpenClaim := { program := "ytofengnbedebpaa", sum := "446b1169bec98dd09412bb719413f053b3dfda1a36c8dfe3859b3eeaa6cdff5d", func := "caravan/caravanlaw18.CustodyPlays", spec := "custodyPlays", inPlace := ["internal/abi.NoEscape"], unfollowed := true, recurses := true, apart := false, narrowed := true }
def CustodyPlaysUptoSaid : Prop := custodyPlaysUptoRow.holds Try.pinned (OpenSpec.upto custodyPlaysSpec)

/-- 'caravanlaw18.CustodyNil', WHERE WHAT IT READS IS OF BULK AT MOST 1048576: true; the input reads as it did. -/
def custodyNilUptoRow : OpenClaim := { program := "ytofengnbedebpaa", sum := "446b1169bec98dd09412bb719413f053b3dfda1a36c8dfe3859b3eeaa6cdff5d", func := "caravan/caravanlaw18.CustodyNil", spec := "custodyNil", inPlace := ["internal/abi.NoEscape"], unfollowed := true, recurses := true, apart := false, narrowed := true }
def CustodyNilUptoSaid : Prop := custodyNilUptoRow.holds Try.pinned (OpenSpec.upto custodyNilSpec)

end Rows
end Go.Proofs.Ytofengnbedebpaa
