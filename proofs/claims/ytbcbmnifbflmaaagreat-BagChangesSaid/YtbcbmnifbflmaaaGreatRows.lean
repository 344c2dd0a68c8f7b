/-
  No cell of these rows narrows 'for every input' (looked for: loops, veiled, ifaces, maps, wideKeys, modest, calm, conditions, laid).
  DERIVED. THE GIVEN ROWS OF THIS SEAT. 6 by the template 'for every input the law returns true; each argument reads behind the call as it read before'; 0 by the template 'total and deterministic' (their statements: YtbcbmnifbflmaaaGreatTotals.lean).
  GIVEN WITH THE SEED: the statements are not yours to turn. If you find one false, say at which input.
  Laid BY PROGRAM, IN A SANDBOX (cutbox-rows.mjs): the forced cells as the released guide's own fill.sh prints them over the translation 71aa771cf3d03ce2… (all of the seat's roots in one cut). By AI agents, Wed Nov 11 2026. No macro, syntax, notation, axiom, sorry.
-/
import Derived.Test.YtbcbmnifbflmaaaGreatChecked
import GoSem.Claim
import GoSem.ClaimJoined
import GoSem.ClaimMapViews
import Derived.JoinedTies
import Derived.KernelRfl
namespace Go.Proofs.YtbcbmnifbflmaaaGreat
/- THE CELL 'sum', in the pinned program and in every row, IS THE sha256 OF THE DUMP (.gsa) THAT YtbcbmnifbflmaaaGreatProg.lean LOADS. Nothing in Lean hashes anything: it is a label: what it is worth is what the hold of that sum in a sandbox is worth. -/
noncomputable def Tryz.pinned : Pinned := { name := "ytbcbmnifbflmaaagreat", sum := "71aa771cf3d03ce23744e1850ed434cc8763248e34ca29800f42b493ddb02a9b", checked := Tryz.checked }
namespace Rows
def none {H : Type} : Left H := { results := [], args := [] }

/-- 'caravanlaw05.BagGone': WHATEVER THE INPUT: true; the input reads as it did. -/
def bagGoneSpec : ChangeSpec := { name := "bagGone", fn := fun _ => fun
  | [d1, d2, d3] => { results := [.lit (.bool true)], args := [d1, d2, d3] }
  | _ => none }
def bagGoneRow : OpenClaim := { program := "ytbcbmnifbflmaaagreat", sum := "71aa771cf3d03ce23744e1850ed434cc8763248e34ca29800f42b493ddb02a9b", func := "caravan/caravanlaw05.BagGone", spec := "bagGone", inPlace := ["slices.overlaps[caravan/api.Msg]", "internal/bytealg.abigen_runtime_cmpstring"], unfollowed := true, recurses := true, apart := false }
def BagGoneSaid : Prop := bagGoneRow.holds Tryz.pinned (OpenSpec.ofChange bagGoneSpec)

/-- ITS FALSE NEIGHBOUR: 'it returns false'. Refute it at one input. -/
def bagGoneWrong : ChangeSpec := { name := "bagGone", fn := fun _ => fun
  | [d1, d2, d3] => { results := [.lit (.bool false)], args := [d1, d2, d3] }
  | _ => none }
def BagGoneWrongFalsely : Prop := bagGoneRow.holds Tryz.pinned (OpenSpec.ofChange bagGoneWrong)

/-- 'caravanlaw05.BagChanges': WHATEVER THE INPUT: true; the input reads as it did. -/
def bagChangesSpec : ChangeSpec := { name := "bagChanges", fn := fun _ => fun
  | [d1, d2, d3] => { results := [.lit (.bool true)], args := [d1, d2, d3] }
  | _ => none }
def bagChangesRow : OpenClaim := { program := "ytbcbmnifbflmaaagreat", sum := "71aa771cf3d03ce23744e1850ed434cc8763248e34ca29800f42b493ddb02a9b", func := "caravan/caravanlaw05.BagChanges", spec := "bagChanges", inPlace := ["slices.overlaps[caravan/api.Msg]", "internal/bytealg.abigen_runtime_cmpstring"], unfollowed := true, recurses := true, apart := false }
def BagChangesSaid : Prop := bagChangesRow.holds Tryz.pinned (OpenSpec.ofChange bagChangesSpec)

/-- ITS FALSE NEIGHBOUR: 'it returns false'. Refute it at one input. -/
def bagChangesWrong : ChangeSpec := { name := "bagChanges", fn := fun _ => fun
  | [d1, d2, d3] => { results := [.lit (.bool false)], args := [d1, d2, d3] }
  | _ => none }
def BagChangesWrongFalsely : Prop := bagChangesRow.holds Tryz.pinned (OpenSpec.ofChange bagChangesWrong)

/-- 'caravanlaw05.BagOrder': WHATEVER THE INPUT: true; the input reads as it did. -/
def bagOrderSpec : ChangeSpec := { name := "bagOrder", fn := fun _ => fun
  | [d1, d2, d3] => { results := [.lit (.bool true)], args := [d1, d2, d3] }
  | _ => none }
def bagOrderRow : OpenClaim := { program := "ytbcbmnifbflmaaagreat", sum := "71aa771cf3d03ce23744e1850ed434cc8763248e34ca29800f42b493ddb02a9b", func := "caravan/caravanlaw05.BagOrder", spec := "bagOrder", inPlace := ["slices.overlaps[caravan/api.Msg]", "internal/bytealg.abigen_runtime_cmpstring"], unfollowed := true, recurses := true, apart := false }
def BagOrderSaid : Prop := bagOrderRow.holds Tryz.pinned (OpenSpec.ofChange bagOrderSpec)

/-- ITS FALSE NEIGHBOUR: 'it returns false'. Refute it at one input. -/
def bagOrderWrong : ChangeSpec := { name := "bagOrder", fn := fun _ => fun
  | [d1, d2, d3] => { results := [.lit (.bool false)], args := [d1, d2, d3] }
  | _ => none }
def BagOrderWrongFalsely : Prop := bagOrderRow.holds Tryz.pinned (OpenSpec.ofChange bagOrderWrong)

/-- 'caravanlaw05.BagLess': WHATEVER THE INPUT: true; the input reads as it did. -/
def bagLessSpec : ChangeSpec := { name := "bagLess", fn := fun _ => fun
  | [d1, d2, d3] => { results := [.lit (.bool true)], args := [d1, d2, d3] }
  | _ => none }
def bagLessRow : OpenClaim := { program := "ytbcbmnifbflmaaagreat", sum := "71aa771cf3d03ce23744e1850ed434cc8763248e34ca29800f42b493ddb02a9b", func := "caravan/caravanlaw05.BagLess", spec := "bagLess", inPlace := ["slices.overlaps[caravan/api.Msg]", "internal/bytealg.abigen_runtime_cmpstring"], unfollowed := true, recurses := true, apart := false }
def BagLessSaid : Prop := bagLessRow.holds Tryz.pinned (OpenSpec.ofChange bagLessSpec)

/-- ITS FALSE NEIGHBOUR: 'it returns false'. Refute it at one input. -/
def bagLessWrong : ChangeSpec := { name := "bagLess", fn := fun _ => fun
  | [d1, d2, d3] => { results := [.lit (.bool false)], args := [d1, d2, d3] }
  | _ => none }
def BagLessWrongFalsely : Prop := bagLessRow.holds Tryz.pinned (OpenSpec.ofChange bagLessWrong)

/-- 'caravanlaw05.BagJoins': WHATEVER THE INPUT: true; the input reads as it did. -/
def bagJoinsSpec : ChangeSpec := { name := "bagJoins", fn := fun _ => fun
  | [d1, d2] => { results := [.lit (.bool true)], args := [d1, d2] }
  | _ => none }
def bagJoinsRow : OpenClaim := { program := "ytbcbmnifbflmaaagreat", sum := "71aa771cf3d03ce23744e1850ed434cc8763248e34ca29800f42b493ddb02a9b", func := "caravan/caravanlaw05.BagJoins", spec := "bagJoins", inPlace := ["slices.overlaps[caravan/api.Msg]", "internal/bytealg.abigen_runtime_cmpstring"], unfollowed := true, recurses := true, apart := false }
def BagJoinsSaid : Prop := bagJoinsRow.holds Tryz.pinned (OpenSpec.ofChange bagJoinsSpec)

/-- ITS FALSE NEIGHBOUR: 'it returns false'. Refute it at one input. -/
def bagJoinsWrong : ChangeSpec := { name := "bagJoins", fn := fun _ => fun
  | [d1, d2] => { results := [.lit (.bool false)], args := [d1, d2] }
  | _ => none }
def BagJoinsWrongFalsely : Prop := bagJoinsRow.holds Tryz.pinned (OpenSpec.ofChange bagJoinsWrong)

/-- 'caravanlaw05.BagBack': WHATEVER THE INPUT: true; the input reads as it did. -/
def bagBackSpec : ChangeSpec := { name := "bagBack", fn := fun _ => fun
  | [d1, d2] => { results := [.lit (.bool true)], args := [d1, d2] }
  | _ => none }
def bagBackRow : OpenClaim := { program := "ytbcbmnifbflmaaagreat", sum := "71aa771cf3d03ce23744e1850ed434cc8763248e34ca29800f42b493ddb02a9b", func := "caravan/caravanlaw05.BagBack", spec := "bagBack", inPlace := ["slices.overlaps[caravan/api.Msg]", "internal/bytealg.abigen_runtime_cmpstring", "internal/abi.NoEscape"], unfollowed := true, recurses := true, apart := false }
def BagBackSaid : Prop := bagBackRow.holds Tryz.pinned (OpenSpec.ofChange bagBackSpec)

/-- ITS FALSE NEIGHBOUR: 'it returns false'. Refute it at one input. -/
def bagBackWrong : ChangeSpec := { name := "bagBack", fn := fun _ => fun
  | [d1, d2] => { results := [.lit (.bool false)], args := [d1, d2] }
  | _ => none }
def BagBackWrongFalsely : Prop := bagBackRow.holds Tryz.pinned (OpenSpec.ofChange bagBackWrong)

/- THE SECOND FORM. 'bulk': how many values and letters a reading holds, each counted each time it is reached (what is shared counts as often as it is met; a slice's spare places count too). A statement '..UptoSaid' is the law's where the arguments, and the package variables that the reading takes, are together of bulk at most 1048576: NARROWER than '..Said'. Prove '..Said' where nothing that the law and all that it calls make is longer than what came in: it says more and counts as full. Else prove '..UptoSaid'. A law counts once. -/
mutual
def uptoBulk {H : Type} : DataW H → Nat
  | .lit (.string bytes) => bytes.length + 1
  | .lit _ => 1
  | .nil => 1
  | .ptr d => uptoBulk d + 1
  | .slice elems spare => uptoBulkAll elems + uptoBulkAll spare + 1
  | .agg parts => uptoBulkAll parts + 1
  | .iface _ d => uptoBulk d + 1
  | .map entries => uptoBulkEntries entries + 1
  | .held _ => 1
def uptoBulkAll {H : Type} : List (DataW H) → Nat
  | [] => 0
  | d :: r => uptoBulk d + uptoBulkAll r
def uptoBulkEntries {H : Type} : List (Lit × DataW H) → Nat
  | [] => 0
  | x :: r => uptoBulkEntry x + uptoBulkEntries r
def uptoBulkEntry {H : Type} : Lit × DataW H → Nat
  | (.string bytes, d) => bytes.length + uptoBulk d + 1
  | (_, d) => uptoBulk d + 1
 end
def uptoSmall : (H : Type) → List (DataW H) → Bool := fun _ ds => decide (uptoBulkAll ds ≤ 1048576)
def OpenSpec.upto (s : _root_.Go.ChangeSpec) : _root_.Go.OpenSpec := { _root_.Go.OpenSpec.ofChange s with cond := some uptoSmall }

/-- 'caravanlaw05.BagGone', WHERE WHAT IT READS IS OF BULK AT MOST 1048576: true; the input reads as it did. -/
def bagGoneUptoRow : OpenClaim := { program := "ytbcbmnifbflmaaagreat", sum := "71aa771cf3d03ce23744e1850ed434cc8763248e34ca29800f42b493ddb02a9b", func := "caravan/caravanlaw05.BagGone", spec := "bagGone", inPlace := ["slices.overlaps[caravan/api.Msg]", "internal/bytealg.abigen_runtime_cmpstring"], unfollowed := true, recurses := true, apart := false, narrowed := true }
def BagGoneUptoSaid : Prop := bagGoneUptoRow.holds Tryz.pinned (OpenSpec.upto bagGoneSpec)

/-- 'caravanlaw05.BagChanges', WHERE WHAT IT READS IS OF BULK AT MOST 1048576: true; the input reads as it did. -/
def bagChangesUptoRow : OpenClaim := { program := "ytbcbmnifbflmaaagreat", sum := "71aa771cf3d03ce23744e1850ed434cc8763248e34ca29800f42b493ddb02a9b", func := "caravan/caravanlaw05.BagChanges", spec := "bagChanges", inPlace := ["slices.overlaps[caravan/api.Msg]", "internal/bytealg.abigen_runtime_cmpstring"], unfollowed := true, recurses := true, apart := false, narrowed := true }
def BagChangesUptoSaid : Prop := bagChangesUptoRow.holds Tryz.pinned (OpenSpec.upto bagChangesSpec)

/-- 'caravanlaw05.BagOrder', WHERE WHAT IT READS IS OF BULK AT MOST 1048576: true; the input reads as it did. -/
def bagOrderUptoRow : OpenClaim := { program := "ytbcbmnifbflmaaagreat", sum := "71aa771cf3d03ce23744e1850ed434cc8763248e34ca29800f42b493ddb02a9b", func := "caravan/caravanlaw05.BagOrder", spec := "bagOrder", inPlace := ["slices.overlaps[caravan/api.Msg]", "internal/bytealg.abigen_runtime_cmpstring"], unfollowed := true, recurses := true, apart := false, narrowed := true }
def BagOrderUptoSaid : Prop := bagOrderUptoRow.holds Tryz.pinned (OpenSpec.upto bagOrderSpec)

/-- 'caravanlaw05.BagLess', WHERE WHAT IT READS IS OF BULK AT MOST 1048576: true; the input reads as it did. -/
def bagLessUptoRow : OpenClaim := { program := "ytbcbmnifbflmaaagreat", sum := "71aa771cf3d03ce23744e1850ed434cc8763248e34ca29800f42b493ddb02a9b", func := "caravan/caravanlaw05.BagLess", spec := "bagLess", inPlace := ["slices.overlaps[caravan/api.Msg]", "internal/bytealg.abigen_runtime_cmpstring"], unfollowed := true, recurses := true, apart := false, narrowed := true }
def BagLessUptoSaid : Prop := bagLessUptoRow.holds Tryz.pinned (OpenSpec.upto bagLessSpec)

/-- 'caravanlaw05.BagJoins', WHERE WHAT IT READS IS OF BULK AT MOST 1048576: true; the input reads as it did. -/
def bagJoinsUptoRow : OpenClaim := { program := "ytbcbmnifbflmaaagreat", sum := "71aa771cf3d03ce23744e1850ed434cc8763248e34ca29800f42b493ddb02a9b", func := "caravan/caravanlaw05.BagJoins", spec := "bagJoins", inPlace := ["slices.overlaps[caravan/api.Msg]", "internal/bytealg.abigen_runtime_cmpstring"], unfollowed := true, recurses := true, apart := false, narrowed := true }
def BagJoinsUptoSaid : Prop := bagJoinsUptoRow.holds Tryz.pinned (OpenSpec.upto bagJoinsSpec)

/-- 'caravanlaw05.BagBack', WHERE WHAT IT READS IS OF BULK AT MOST 1048576: true; the input reads as it did. -/
def bagBackUptoRow : OpenClaim := { program := "ytbcbmnifbflmaaagreat", sum := "71aa771cf3d03ce23744e1850ed434cc8763248e34ca29800f42b493ddb02a9b", func := "caravan/caravanlaw05.BagBack", spec := "bagBack", inPlace := ["slices.overlaps[caravan/api.Msg]", "internal/bytealg.abigen_runtime_cmpstring", "internal/abi.NoEscape"], unfollowed := true, recurses := true, apart := false, narrowed := true }
def BagBackUptoSaid : Prop := bagBackUptoRow.holds Tryz.pinned (OpenSpec.upto bagBackSpec)

end Rows
end Go.Proofs.YtbcbmnifbflmaaaGreat
