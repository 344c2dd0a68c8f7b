/-
  No cell of these rows narrows 'for every input' (looked for: loops, veiled, ifaces, maps, wideKeys, modest, calm, conditions, laid).
  DERIVED. THE GIVEN ROWS OF THIS SEAT. 8 by the template 'for every input the law returns true; each argument reads behind the call as it read before'; 0 by the template 'total and deterministic' (their statements: YtdlpnhfgjficgaaGreatTotals.lean).
  GIVEN WITH THE SEED: the statements are not yours to turn. If you find one false, say at which input.
  Laid BY PROGRAM, IN A SANDBOX (cutbox-rows.mjs): the forced cells as the released guide's own fill.sh prints them over the translation 10ab693e248d026a… (all of the seat's roots in one cut). By AI agents, Wed Nov 11 2026. No macro, syntax, notation, axiom, sorry.
-/
import Derived.Test.YtdlpnhfgjficgaaGreatChecked
import GoSem.Claim
import GoSem.ClaimJoined
import GoSem.ClaimMapViews
import Derived.JoinedTies
import Derived.KernelRfl
namespace Go.Proofs.YtdlpnhfgjficgaaGreat
/- THE CELL 'sum', in the pinned program and in every row, IS THE sha256 OF THE DUMP (.gsa) THAT YtdlpnhfgjficgaaGreatProg.lean LOADS. Nothing in Lean hashes anything: it is a label: what it is worth is what the hold of that sum in a sandbox is worth. -/
noncomputable def Tryz.pinned : Pinned := { name := "ytdlpnhfgjficgaagreat", sum := "10ab693e248d026ac01b524b6cb91a75e51d7236191127fa68a4c18ef215ad20", checked := Tryz.checked }
namespace Rows
def none {H : Type} : Left H := { results := [], args := [] }

/-- 'caravanlaw19.StateGone': WHATEVER THE INPUT: true; the input reads as it did. -/
def stateGoneSpec : ChangeSpec := { name := "stateGone", fn := fun _ => fun
  | [d1, d2, d3] => { results := [.lit (.bool true)], args := [d1, d2, d3] }
  | _ => none }
def stateGoneRow : OpenClaim := { program := "ytdlpnhfgjficgaagreat", sum := "10ab693e248d026ac01b524b6cb91a75e51d7236191127fa68a4c18ef215ad20", func := "caravan/caravanlaw19.StateGone", spec := "stateGone", inPlace := ["internal/bytealg.abigen_runtime_cmpstring"], unfollowed := true, recurses := true, apart := false }
def StateGoneSaid : Prop := stateGoneRow.holds Tryz.pinned (OpenSpec.ofChange stateGoneSpec)

/-- ITS FALSE NEIGHBOUR: 'it returns false'. Refute it at one input. -/
def stateGoneWrong : ChangeSpec := { name := "stateGone", fn := fun _ => fun
  | [d1, d2, d3] => { results := [.lit (.bool false)], args := [d1, d2, d3] }
  | _ => none }
def StateGoneWrongFalsely : Prop := stateGoneRow.holds Tryz.pinned (OpenSpec.ofChange stateGoneWrong)

/-- 'caravanlaw19.StateRecords': WHATEVER THE INPUT: true; the input reads as it did. -/
def stateRecordsSpec : ChangeSpec := { name := "stateRecords", fn := fun _ => fun
  | [d1, d2, d3] => { results := [.lit (.bool true)], args := [d1, d2, d3] }
  | _ => none }
def stateRecordsRow : OpenClaim := { program := "ytdlpnhfgjficgaagreat", sum := "10ab693e248d026ac01b524b6cb91a75e51d7236191127fa68a4c18ef215ad20", func := "caravan/caravanlaw19.StateRecords", spec := "stateRecords", inPlace := ["internal/bytealg.abigen_runtime_cmpstring", "internal/abi.NoEscape"], unfollowed := true, recurses := true, apart := false }
def StateRecordsSaid : Prop := stateRecordsRow.holds Tryz.pinned (OpenSpec.ofChange stateRecordsSpec)

/-- ITS FALSE NEIGHBOUR: 'it returns false'. Refute it at one input. -/
def stateRecordsWrong : ChangeSpec := { name := "stateRecords", fn := fun _ => fun
  | [d1, d2, d3] => { results := [.lit (.bool false)], args := [d1, d2, d3] }
  | _ => none }
def StateRecordsWrongFalsely : Prop := stateRecordsRow.holds Tryz.pinned (OpenSpec.ofChange stateRecordsWrong)

/-- 'caravanlaw19.StateAgain': WHATEVER THE INPUT: true; the input reads as it did. -/
def stateAgainSpec : ChangeSpec := { name := "stateAgain", fn := fun _ => fun
  | [d1, d2] => { results := [.lit (.bool true)], args := [d1, d2] }
  | _ => none }
def stateAgainRow : OpenClaim := { program := "ytdlpnhfgjficgaagreat", sum := "10ab693e248d026ac01b524b6cb91a75e51d7236191127fa68a4c18ef215ad20", func := "caravan/caravanlaw19.StateAgain", spec := "stateAgain", inPlace := ["internal/bytealg.abigen_runtime_cmpstring", "internal/abi.NoEscape"], unfollowed := true, recurses := true, apart := false }
def StateAgainSaid : Prop := stateAgainRow.holds Tryz.pinned (OpenSpec.ofChange stateAgainSpec)

/-- ITS FALSE NEIGHBOUR: 'it returns false'. Refute it at one input. -/
def stateAgainWrong : ChangeSpec := { name := "stateAgain", fn := fun _ => fun
  | [d1, d2] => { results := [.lit (.bool false)], args := [d1, d2] }
  | _ => none }
def StateAgainWrongFalsely : Prop := stateAgainRow.holds Tryz.pinned (OpenSpec.ofChange stateAgainWrong)

/-- 'caravanlaw19.StateOrder': WHATEVER THE INPUT: true; the input reads as it did. -/
def stateOrderSpec : ChangeSpec := { name := "stateOrder", fn := fun _ => fun
  | [d] => { results := [.lit (.bool true)], args := [d] }
  | _ => none }
def stateOrderRow : OpenClaim := { program := "ytdlpnhfgjficgaagreat", sum := "10ab693e248d026ac01b524b6cb91a75e51d7236191127fa68a4c18ef215ad20", func := "caravan/caravanlaw19.StateOrder", spec := "stateOrder", inPlace := ["internal/bytealg.abigen_runtime_cmpstring", "internal/abi.NoEscape"], unfollowed := true, recurses := true, apart := false }
def StateOrderSaid : Prop := stateOrderRow.holds Tryz.pinned (OpenSpec.ofChange stateOrderSpec)

/-- ITS FALSE NEIGHBOUR: 'it returns false'. Refute it at one input. -/
def stateOrderWrong : ChangeSpec := { name := "stateOrder", fn := fun _ => fun
  | [d] => { results := [.lit (.bool false)], args := [d] }
  | _ => none }
def StateOrderWrongFalsely : Prop := stateOrderRow.holds Tryz.pinned (OpenSpec.ofChange stateOrderWrong)

/-- 'caravanlaw19.StateCopies': WHATEVER THE INPUT: true; the input reads as it did. -/
def stateCopiesSpec : ChangeSpec := { name := "stateCopies", fn := fun _ => fun
  | [d1, d2, d3] => { results := [.lit (.bool true)], args := [d1, d2, d3] }
  | _ => none }
def stateCopiesRow : OpenClaim := { program := "ytdlpnhfgjficgaagreat", sum := "10ab693e248d026ac01b524b6cb91a75e51d7236191127fa68a4c18ef215ad20", func := "caravan/caravanlaw19.StateCopies", spec := "stateCopies", inPlace := ["internal/bytealg.abigen_runtime_cmpstring", "internal/abi.NoEscape"], unfollowed := true, recurses := true, apart := false }
def StateCopiesSaid : Prop := stateCopiesRow.holds Tryz.pinned (OpenSpec.ofChange stateCopiesSpec)

/-- ITS FALSE NEIGHBOUR: 'it returns false'. Refute it at one input. -/
def stateCopiesWrong : ChangeSpec := { name := "stateCopies", fn := fun _ => fun
  | [d1, d2, d3] => { results := [.lit (.bool false)], args := [d1, d2, d3] }
  | _ => none }
def StateCopiesWrongFalsely : Prop := stateCopiesRow.holds Tryz.pinned (OpenSpec.ofChange stateCopiesWrong)

/-- 'caravanlaw19.StatePlays': WHATEVER THE INPUT: true; the input reads as it did. -/
def statePlaysSpec : ChangeSpec := { name := "statePlays", fn := fun _ => fun
  | [d] => { results := [.lit (.bool true)], args := [d] }
  | _ => none }
def statePlaysRow : OpenClaim := { program := "ytdlpnhfgjficgaagreat", sum := "10ab693e248d026ac01b524b6cb91a75e51d7236191127fa68a4c18ef215ad20", func := "caravan/caravanlaw19.StatePlays", spec := "statePlays", inPlace := ["internal/bytealg.abigen_runtime_cmpstring", "internal/abi.NoEscape"], unfollowed := true, recurses := true, apart := false }
def StatePlaysSaid : Prop := statePlaysRow.holds Tryz.pinned (OpenSpec.ofChange statePlaysSpec)

/-- ITS FALSE NEIGHBOUR: 'it returns false'. Refute it at one input. -/
def statePlaysWrong : ChangeSpec := { name := "statePlays", fn := fun _ => fun
  | [d] => { results := [.lit (.bool false)], args := [d] }
  | _ => none }
def StatePlaysWrongFalsely : Prop := statePlaysRow.holds Tryz.pinned (OpenSpec.ofChange statePlaysWrong)

/-- 'caravanlaw19.StateNil': WHATEVER THE INPUT: true; the input reads as it did. -/
def stateNilSpec : ChangeSpec := { name := "stateNil", fn := fun _ => fun
  | [d] => { results := [.lit (.bool true)], args := [d] }
  | _ => none }
def stateNilRow : OpenClaim := { program := "ytdlpnhfgjficgaagreat", sum := "10ab693e248d026ac01b524b6cb91a75e51d7236191127fa68a4c18ef215ad20", func := "caravan/caravanlaw19.StateNil", spec := "stateNil", inPlace := ["internal/bytealg.abigen_runtime_cmpstring", "internal/abi.NoEscape"], unfollowed := true, recurses := true, apart := false }
def StateNilSaid : Prop := stateNilRow.holds Tryz.pinned (OpenSpec.ofChange stateNilSpec)

/-- ITS FALSE NEIGHBOUR: 'it returns false'. Refute it at one input. -/
def stateNilWrong : ChangeSpec := { name := "stateNil", fn := fun _ => fun
  | [d] => { results := [.lit (.bool false)], args := [d] }
  | _ => none }
def StateNilWrongFalsely : Prop := stateNilRow.holds Tryz.pinned (OpenSpec.ofChange stateNilWrong)

/-- 'caravanlaw19.StateLoads': WHATEVER THE INPUT: true; the input reads as it did. -/
def stateLoadsSpec : ChangeSpec := { name := "stateLoads", fn := fun _ => fun
  | [d] => { results := [.lit (.bool true)], args := [d] }
  | _ => none }
def stateLoadsRow : OpenClaim := { program := "ytdlpnhfgjficgaagreat", sum := "10ab693e248d026ac01b524b6cb91a75e51d7236191127fa68a4c18ef215ad20", func := "caravan/caravanlaw19.StateLoads", spec := "stateLoads", inPlace := ["internal/bytealg.abigen_runtime_cmpstring", "internal/abi.NoEscape"], unfollowed := true, recurses := true, apart := false }
def StateLoadsSaid : Prop := stateLoadsRow.holds Tryz.pinned (OpenSpec.ofChange stateLoadsSpec)

/-- ITS FALSE NEIGHBOUR: 'it returns false'. Refute it at one input. -/
def stateLoadsWrong : ChangeSpec := { name := "stateLoads", fn := fun _ => fun
  | [d] => { results := [.lit (.bool false)], args := [d] }
  | _ => none }
def StateLoadsWrongFalsely : Prop := stateLoadsRow.holds Tryz.pinned (OpenSpec.ofChange stateLoadsWrong)

/- THE SECOND FORM. 'bulk': how many values and letters a reading holds, each counted each time it is reached (what is shared counts as often as it is met; a slice's spare places count too). A statement '..UptoSaid' is the law's where the arguments, and the package variables that the reading takes, are together of bulk at most 1048576: NARROWER than '..Said'. Prove '..Said' where nothing that the law and all that it calls make is longer than what came in: it says more and counts as full. Else prove '..UptoSaid'. A law counts once. -/
mutual
def uptoBulk {H : Type} : DataW H → Nat
  | .lit (.string bytes) => bytes.length + 1
  | .lit _ => 1
  | .nil => 1
  | .ptr d => uptoBulk d + 1
  | .slice elems spare => uptoBulkAll elems + uptoBulkAll spare + 1
  | .agg parts => uptoBulkAll parts + 1
  | .iface _ d => uptoBulk d + 1
  | .map entries => uptoBulkEntries entries + 1
  | .held _ => 1
def uptoBulkAll {H : Type} : List (DataW H) → Nat
  | [] => 0
  | d :: r => uptoBulk d + uptoBulkAll r
def uptoBulkEntries {H : Type} : List (Lit × DataW H) → Nat
  | [] => 0
  | x :: r => uptoBulkEntry x + uptoBulkEntries r
def uptoBulkEntry {H : Type} : Lit × DataW H → Nat
  | (.string bytes, d) => bytes.length + uptoBulk d + 1
  | (_, d) => uptoBulk d + 1
 end
def uptoSmall : (H : Type) → List (DataW H) → Bool := fun _ ds => decide (uptoBulkAll ds ≤ 1048576)
def OpenSpec.upto (s : _root_.Go.ChangeSpec) : _root_.Go.OpenSpec := { _root_.Go.OpenSpec.ofChange s with cond := some uptoSmall }

/-- 'caravanlaw19.StateGone', WHERE WHAT IT READS IS OF BULK AT MOST 1048576: true; the input reads as it did. -/
def stateGoneUptoRow : OpenClaim := { program := "ytdlpnhfgjficgaagreat", sum := "10ab693e248d026ac01b524b6cb91a75e51d7236191127fa68a4c18ef215ad20", func := "caravan/caravanlaw19.StateGone", spec := "stateGone", inPlace := ["internal/bytealg.abigen_runtime_cmpstring"], unfollowed := true, recurses := true, apart := false, narrowed := true }
def StateGoneUptoSaid : Prop := stateGoneUptoRow.holds Tryz.pinned (OpenSpec.upto stateGoneSpec)

/-- 'caravanlaw19.StateRecords', WHERE WHAT IT READS IS OF BULK AT MOST 1048576: true; the input reads as it did. -/
def stateRecordsUptoRow : OpenClaim := { program := "ytdlpnhfgjficgaagreat", sum := "10ab693e248d026ac01b524b6cb91a75e51d7236191127fa68a4c18ef215ad20", func := "caravan/caravanlaw19.StateRecords", spec := "stateRecords", inPlace := ["internal/bytealg.abigen_runtime_cmpstring", "internal/abi.NoEscape"], unfollowed := true, recurses := true, apart := false, narrowed := true }
def StateRecordsUptoSaid : Prop := stateRecordsUptoRow.holds Tryz.pinned (OpenSpec.upto stateRecordsSpec)

/-- 'caravanlaw19.StateAgain', WHERE WHAT IT READS IS OF BULK AT MOST 1048576: true; the input reads as it did. -/
def stateAgainUptoRow : OpenClaim := { program := "ytdlpnhfgjficgaagreat", sum := "10ab693e248d026ac01b524b6cb91a75e51d7236191127fa68a4c18ef215ad20", func := "caravan/caravanlaw19.StateAgain", spec := "stateAgain", inPlace := ["internal/bytealg.abigen_runtime_cmpstring", "internal/abi.NoEscape"], unfollowed := true, recurses := true, apart := false, narrowed := true }
def StateAgainUptoSaid : Prop := stateAgainUptoRow.holds Tryz.pinned (OpenSpec.upto stateAgainSpec)

/-- 'caravanlaw19.StateOrder', WHERE WHAT IT READS IS OF BULK AT MOST 1048576: true; the input reads as it did. -/
def stateOrderUptoRow : OpenClaim := { program := "ytdlpnhfgjficgaagreat", sum := "10ab693e248d026ac01b524b6cb91a75e51d7236191127fa68a4c18ef215ad20", func := "caravan/caravanlaw19.StateOrder", spec := "stateOrder", inPlace := ["internal/bytealg.abigen_runtime_cmpstring", "internal/abi.NoEscape"], unfollowed := true, recurses := true, apart := false, narrowed := true }
def StateOrderUptoSaid : Prop := stateOrderUptoRow.holds Tryz.pinned (OpenSpec.upto stateOrderSpec)

/-- 'caravanlaw19.StateCopies', WHERE WHAT IT READS IS OF BULK AT MOST 1048576: true; the input reads as it did. -/
def stateCopiesUptoRow : OpenClaim := { program := "ytdlpnhfgjficgaagreat", sum := "10ab693e248d026ac01b524b6cb91a75e51d7236191127fa68a4c18ef215ad20", func := "caravan/caravanlaw19.StateCopies", spec := "stateCopies", inPlace := ["internal/bytealg.abigen_runtime_cmpstring", "internal/abi.NoEscape"], unfollowed := true, recurses := true, apart := false, narrowed := true }
def StateCopiesUptoSaid : Prop := stateCopiesUptoRow.holds Tryz.pinned (OpenSpec.upto stateCopiesSpec)

/-- 'caravanlaw19.StatePlays', WHERE WHAT IT READS IS OF BULK AT MOST 1048576: true; the input reads as it did. -/
def statePlaysUptoRow : OpenClaim := { program := "ytdlpnhfgjficgaagreat", sum := "10ab693e248d026ac01b524b6cb91a75e51d7236191127fa68a4c18ef215ad20", func := "caravan/caravanlaw19.StatePlays", spec := "statePlays", inPlace := ["internal/bytealg.abigen_runtime_cmpstring", "internal/abi.NoEscape"], unfollowed := true, recurses := true, apart := false, narrowed := true }
def StatePlaysUptoSaid : Prop := statePlaysUptoRow.holds Tryz.pinned (OpenSpec.upto statePlaysSpec)

/-- 'caravanlaw19.StateNil', WHERE WHAT IT READS IS OF BULK AT MOST 1048576: true; the input reads as it did. -/
def stateNilUptoRow : OpenClaim := { program := "ytdlpnhfgjficgaagreat", sum := "10ab693e248d026ac01b524b6cb91a75e51d7236191127fa68a4c18ef215ad20", func := "caravan/caravanlaw19.StateNil", spec := "stateNil", inPlace := ["internal/bytealg.abigen_runtime_cmpstring", "internal/abi.NoEscape"], unfollowed := true, recurses := true, apart := false, narrowed := true }
def StateNilUptoSaid : Prop := stateNilUptoRow.holds Tryz.pinned (OpenSpec.upto stateNilSpec)

/-- 'caravanlaw19.StateLoads', WHERE WHAT IT READS IS OF BULK AT MOST 1048576: true; the input reads as it did. -/
def stateLoadsUptoRow : OpenClaim := { program := "ytdlpnhfgjficgaagreat", sum := "10ab693e248d026ac01b524b6cb91a75e51d7236191127fa68a4c18ef215ad20", func := "caravan/caravanlaw19.StateLoads", spec := "stateLoads", inPlace := ["internal/bytealg.abigen_runtime_cmpstring", "internal/abi.NoEscape"], unfollowed := true, recurses := true, apart := false, narrowed := true }
def StateLoadsUptoSaid : Prop := stateLoadsUptoRow.holds Tryz.pinned (OpenSpec.upto stateLoadsSpec)

end Rows
end Go.Proofs.YtdlpnhfgjficgaaGreat
