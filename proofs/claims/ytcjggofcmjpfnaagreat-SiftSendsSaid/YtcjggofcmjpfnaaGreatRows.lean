/-
  No cell of these rows narrows 'for every input' (looked for: loops, veiled, ifaces, maps, wideKeys, modest, calm, conditions, laid).
  DERIVED. THE GIVEN ROWS OF THIS SEAT. 6 by the template 'for every input the law returns true; each argument reads behind the call as it read before'; 0 by the template 'total and deterministic' (their statements: YtcjggofcmjpfnaaGreatTotals.lean).
  GIVEN WITH THE SEED: the statements are not yours to turn. If you find one false, say at which input.
  Laid BY PROGRAM, IN A SANDBOX (cutbox-rows.mjs): the forced cells as the released guide's own fill.sh prints them over the translation 8507a28a4dd7b73b… (all of the seat's roots in one cut). By AI agents, Wed Nov 11 2026. No macro, syntax, notation, axiom, sorry.
-/
import Derived.Test.YtcjggofcmjpfnaaGreatChecked
import GoSem.Claim
import GoSem.ClaimJoined
import GoSem.ClaimMapViews
import Derived.JoinedTies
import Derived.KernelRfl
namespace Go.Proofs.YtcjggofcmjpfnaaGreat
/- THE CELL 'sum', in the pinned program and in every row, IS THE sha256 OF THE DUMP (.gsa) THAT YtcjggofcmjpfnaaGreatProg.lean LOADS. Nothing in Lean hashes anything: it is a label: what it is worth is what the hold of that sum in a sandbox is worth. -/
noncomputable def Tryz.pinned : Pinned := { name := "ytcjggofcmjpfnaagreat", sum := "8507a28a4dd7b73b441ede4ad42f8af05c1b03217567db8c5fd04f81e408c8f9", checked := Tryz.checked }
namespace Rows
def none {H : Type} : Left H := { results := [], args := [] }

/-- 'caravanlaw06.SiftDiffers': WHATEVER THE INPUT: true; the input reads as it did. -/
def siftDiffersSpec : ChangeSpec := { name := "siftDiffers", fn := fun _ => fun
  | [d1, d2, d3] => { results := [.lit (.bool true)], args := [d1, d2, d3] }
  | _ => none }
def siftDiffersRow : OpenClaim := { program := "ytcjggofcmjpfnaagreat", sum := "8507a28a4dd7b73b441ede4ad42f8af05c1b03217567db8c5fd04f81e408c8f9", func := "caravan/caravanlaw06.SiftDiffers", spec := "siftDiffers", inPlace := ["internal/abi.NoEscape"], unfollowed := true, recurses := true, apart := false }
def SiftDiffersSaid : Prop := siftDiffersRow.holds Tryz.pinned (OpenSpec.ofChange siftDiffersSpec)

/-- ITS FALSE NEIGHBOUR: 'it returns false'. Refute it at one input. -/
def siftDiffersWrong : ChangeSpec := { name := "siftDiffers", fn := fun _ => fun
  | [d1, d2, d3] => { results := [.lit (.bool false)], args := [d1, d2, d3] }
  | _ => none }
def SiftDiffersWrongFalsely : Prop := siftDiffersRow.holds Tryz.pinned (OpenSpec.ofChange siftDiffersWrong)

/-- 'caravanlaw06.SiftMarks': WHATEVER THE INPUT: true; the input reads as it did. -/
def siftMarksSpec : ChangeSpec := { name := "siftMarks", fn := fun _ => fun
  | [d1, d2, d3] => { results := [.lit (.bool true)], args := [d1, d2, d3] }
  | _ => none }
def siftMarksRow : OpenClaim := { program := "ytcjggofcmjpfnaagreat", sum := "8507a28a4dd7b73b441ede4ad42f8af05c1b03217567db8c5fd04f81e408c8f9", func := "caravan/caravanlaw06.SiftMarks", spec := "siftMarks", inPlace := ["internal/abi.NoEscape"], unfollowed := true, recurses := true, apart := false }
def SiftMarksSaid : Prop := siftMarksRow.holds Tryz.pinned (OpenSpec.ofChange siftMarksSpec)

/-- ITS FALSE NEIGHBOUR: 'it returns false'. Refute it at one input. -/
def siftMarksWrong : ChangeSpec := { name := "siftMarks", fn := fun _ => fun
  | [d1, d2, d3] => { results := [.lit (.bool false)], args := [d1, d2, d3] }
  | _ => none }
def SiftMarksWrongFalsely : Prop := siftMarksRow.holds Tryz.pinned (OpenSpec.ofChange siftMarksWrong)

/-- 'caravanlaw06.SiftParts': WHATEVER THE INPUT: true; the input reads as it did. -/
def siftPartsSpec : ChangeSpec := { name := "siftParts", fn := fun _ => fun
  | [d1, d2] => { results := [.lit (.bool true)], args := [d1, d2] }
  | _ => none }
def siftPartsRow : OpenClaim := { program := "ytcjggofcmjpfnaagreat", sum := "8507a28a4dd7b73b441ede4ad42f8af05c1b03217567db8c5fd04f81e408c8f9", func := "caravan/caravanlaw06.SiftParts", spec := "siftParts", inPlace := ["internal/abi.NoEscape", "internal/bytealg.abigen_runtime_cmpstring"], unfollowed := true, recurses := true, apart := false }
def SiftPartsSaid : Prop := siftPartsRow.holds Tryz.pinned (OpenSpec.ofChange siftPartsSpec)

/-- ITS FALSE NEIGHBOUR: 'it returns false'. Refute it at one input. -/
def siftPartsWrong : ChangeSpec := { name := "siftParts", fn := fun _ => fun
  | [d1, d2] => { results := [.lit (.bool false)], args := [d1, d2] }
  | _ => none }
def SiftPartsWrongFalsely : Prop := siftPartsRow.holds Tryz.pinned (OpenSpec.ofChange siftPartsWrong)

/-- 'caravanlaw06.SiftWhole': WHATEVER THE INPUT: true; the input reads as it did. -/
def siftWholeSpec : ChangeSpec := { name := "siftWhole", fn := fun _ => fun
  | [d1, d2] => { results := [.lit (.bool true)], args := [d1, d2] }
  | _ => none }
def siftWholeRow : OpenClaim := { program := "ytcjggofcmjpfnaagreat", sum := "8507a28a4dd7b73b441ede4ad42f8af05c1b03217567db8c5fd04f81e408c8f9", func := "caravan/caravanlaw06.SiftWhole", spec := "siftWhole", inPlace := ["internal/abi.NoEscape", "internal/bytealg.abigen_runtime_cmpstring"], unfollowed := true, recurses := true, apart := false }
def SiftWholeSaid : Prop := siftWholeRow.holds Tryz.pinned (OpenSpec.ofChange siftWholeSpec)

/-- ITS FALSE NEIGHBOUR: 'it returns false'. Refute it at one input. -/
def siftWholeWrong : ChangeSpec := { name := "siftWhole", fn := fun _ => fun
  | [d1, d2] => { results := [.lit (.bool false)], args := [d1, d2] }
  | _ => none }
def SiftWholeWrongFalsely : Prop := siftWholeRow.holds Tryz.pinned (OpenSpec.ofChange siftWholeWrong)

/-- 'caravanlaw06.SiftOne': WHATEVER THE INPUT: true; the input reads as it did. -/
def siftOneSpec : ChangeSpec := { name := "siftOne", fn := fun _ => fun
  | [d1, d2] => { results := [.lit (.bool true)], args := [d1, d2] }
  | _ => none }
def siftOneRow : OpenClaim := { program := "ytcjggofcmjpfnaagreat", sum := "8507a28a4dd7b73b441ede4ad42f8af05c1b03217567db8c5fd04f81e408c8f9", func := "caravan/caravanlaw06.SiftOne", spec := "siftOne", inPlace := ["internal/abi.NoEscape", "internal/bytealg.abigen_runtime_cmpstring"], unfollowed := true, recurses := true, apart := false }
def SiftOneSaid : Prop := siftOneRow.holds Tryz.pinned (OpenSpec.ofChange siftOneSpec)

/-- ITS FALSE NEIGHBOUR: 'it returns false'. Refute it at one input. -/
def siftOneWrong : ChangeSpec := { name := "siftOne", fn := fun _ => fun
  | [d1, d2] => { results := [.lit (.bool false)], args := [d1, d2] }
  | _ => none }
def SiftOneWrongFalsely : Prop := siftOneRow.holds Tryz.pinned (OpenSpec.ofChange siftOneWrong)

/-- 'caravanlaw06.SiftSends': WHATEVER THE INPUT: true; the input reads as it did. -/
def siftSendsSpec : ChangeSpec := { name := "siftSends", fn := fun _ => fun
  | [d1, d2] => { results := [.lit (.bool true)], args := [d1, d2] }
  | _ => none }
def siftSendsRow : OpenClaim := { program := "ytcjggofcmjpfnaagreat", sum := "8507a28a4dd7b73b441ede4ad42f8af05c1b03217567db8c5fd04f81e408c8f9", func := "caravan/caravanlaw06.SiftSends", spec := "siftSends", inPlace := ["internal/abi.NoEscape", "internal/bytealg.abigen_runtime_cmpstring"], unfollowed := true, recurses := true, apart := false }
def SiftSendsSaid : Prop := siftSendsRow.holds Tryz.pinned (OpenSpec.ofChange siftSendsSpec)

/-- ITS FALSE NEIGHBOUR: 'it returns false'. Refute it at one input. -/
def siftSendsWrong : ChangeSpec := { name := "siftSends", fn := fun _ => fun
  | [d1, d2] => { results := [.lit (.bool false)], args := [d1, d2] }
  | _ => none }
def SiftSendsWrongFalsely : Prop := siftSendsRow.holds Tryz.pinned (OpenSpec.ofChange siftSendsWrong)

/- THE SECOND FORM. 'bulk': how many values and letters a reading holds, each counted each time it is reached (what is shared counts as often as it is met; a slice's spare places count too). A statement '..UptoSaid' is the law's where the arguments, and the package variables that the reading takes, are together of bulk at most 1048576: NARROWER than '..Said'. Prove '..Said' where nothing that the law and all that it calls make is longer than what came in: it says more and counts as full. Else prove '..UptoSaid'. A law counts once. -/
mutual
def uptoBulk {H : Type} : DataW H → Nat
  | .lit (.string bytes) => bytes.length + 1
  | .lit _ => 1
  | .nil => 1
  | .ptr d => uptoBulk d + 1
  | .slice elems spare => uptoBulkAll elems + uptoBulkAll spare + 1
  | .agg parts => uptoBulkAll parts + 1
  | .iface _ d => uptoBulk d + 1
  | .map entries => uptoBulkEntries entries + 1
  | .held _ => 1
def uptoBulkAll {H : Type} : List (DataW H) → Nat
  | [] => 0
  | d :: r => uptoBulk d + uptoBulkAll r
def uptoBulkEntries {H : Type} : List (Lit × DataW H) → Nat
  | [] => 0
  | x :: r => uptoBulkEntry x + uptoBulkEntries r
def uptoBulkEntry {H : Type} : Lit × DataW H → Nat
  | (.string bytes, d) => bytes.length + uptoBulk d + 1
  | (_, d) => uptoBulk d + 1
 end
def uptoSmall : (H : Type) → List (DataW H) → Bool := fun _ ds => decide (uptoBulkAll ds ≤ 1048576)
def OpenSpec.upto (s : _root_.Go.ChangeSpec) : _root_.Go.OpenSpec := { _root_.Go.OpenSpec.ofChange s with cond := some uptoSmall }

/-- 'caravanlaw06.SiftDiffers', WHERE WHAT IT READS IS OF BULK AT MOST 1048576: true; the input reads as it did. -/
def siftDiffersUptoRow : OpenClaim := { program := "ytcjggofcmjpfnaagreat", sum := "8507a28a4dd7b73b441ede4ad42f8af05c1b03217567db8c5fd04f81e408c8f9", func := "caravan/caravanlaw06.SiftDiffers", spec := "siftDiffers", inPlace := ["internal/abi.NoEscape"], unfollowed := true, recurses := true, apart := false, narrowed := true }
def SiftDiffersUptoSaid : Prop := siftDiffersUptoRow.holds Tryz.pinned (OpenSpec.upto siftDiffersSpec)

/-- 'caravanlaw06.SiftMarks', WHERE WHAT IT READS IS OF BULK AT MOST 1048576: true; the input reads as it did. -/
def siftMarksUptoRow : OpenClaim := { program := "ytcjggofcmjpfnaagreat", sum := "8507a28a4dd7b73b441ede4ad42f8af05c1b03217567db8c5fd04f81e408c8f9", func := "caravan/caravanlaw06.SiftMarks", spec := "siftMarks", inPlace := ["internal/abi.NoEscape"], unfollowed := true, recurses := true, apart := false, narrowed := true }
def SiftMarksUptoSaid : Prop := siftMarksUptoRow.holds Tryz.pinned (OpenSpec.upto siftMarksSpec)

/-- 'caravanlaw06.SiftParts', WHERE WHAT IT READS IS OF BULK AT MOST 1048576: true; the input reads as it did. -/
def siftPartsUptoRow : OpenClaim := { program := "ytcjggofcmjpfnaagreat", sum := "8507a28a4dd7b73b441ede4ad42f8af05c1b03217567db8c5fd04f81e408c8f9", func := "caravan/caravanlaw06.SiftParts", spec := "siftParts", inPlace := ["internal/abi.NoEscape", "internal/bytealg.abigen_runtime_cmpstring"], unfollowed := true, recurses := true, apart := false, narrowed := true }
def SiftPartsUptoSaid : Prop := siftPartsUptoRow.holds Tryz.pinned (OpenSpec.upto siftPartsSpec)

/-- 'caravanlaw06.SiftWhole', WHERE WHAT IT READS IS OF BULK AT MOST 1048576: true; the input reads as it did. -/
def siftWholeUptoRow : OpenClaim := { program := "ytcjggofcmjpfnaagreat", sum := "8507a28a4dd7b73b441ede4ad42f8af05c1b03217567db8c5fd04f81e408c8f9", func := "caravan/caravanlaw06.SiftWhole", spec := "siftWhole", inPlace := ["internal/abi.NoEscape", "internal/bytealg.abigen_runtime_cmpstring"], unfollowed := true, recurses := true, apart := false, narrowed := true }
def SiftWholeUptoSaid : Prop := siftWholeUptoRow.holds Tryz.pinned (OpenSpec.upto siftWholeSpec)

/-- 'caravanlaw06.SiftOne', WHERE WHAT IT READS IS OF BULK AT MOST 1048576: true; the input reads as it did. -/
def siftOneUptoRow : OpenClaim := { program := "ytcjggofcmjpfnaagreat", sum := "8507a28a4dd7b73b441ede4ad42f8af05c1b03217567db8c5fd04f81e408c8f9", func := "caravan/caravanlaw06.SiftOne", spec := "siftOne", inPlace := ["internal/abi.NoEscape", "internal/bytealg.abigen_runtime_cmpstring"], unfollowed := true, recurses := true, apart := false, narrowed := true }
def SiftOneUptoSaid : Prop := siftOneUptoRow.holds Tryz.pinned (OpenSpec.upto siftOneSpec)

/-- 'caravanlaw06.SiftSends', WHERE WHAT IT READS IS OF BULK AT MOST 1048576: true; the input reads as it did. -/
def siftSendsUptoRow : OpenClaim := { program := "ytcjggofcmjpfnaagreat", sum := "8507a28a4dd7b73b441ede4ad42f8af05c1b03217567db8c5fd04f81e408c8f9", func := "caravan/caravanlaw06.SiftSends", spec := "siftSends", inPlace := ["internal/abi.NoEscape", "internal/bytealg.abigen_runtime_cmpstring"], unfollowed := true, recurses := true, apart := false, narrowed := true }
def SiftSendsUptoSaid : Prop := siftSendsUptoRow.holds Tryz.pinned (OpenSpec.upto siftSendsSpec)

end Rows
end Go.Proofs.YtcjggofcmjpfnaaGreat
