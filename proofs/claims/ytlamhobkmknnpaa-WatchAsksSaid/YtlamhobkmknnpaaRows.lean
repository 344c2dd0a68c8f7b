/-
  No cell of these rows narrows 'for every input' (looked for: loops, veiled, ifaces, maps, wideKeys, modest, calm, conditions, laid).
  DERIVED. THE GIVEN ROWS OF THIS SEAT. 5 by the template 'for every input the law returns true; each argument reads behind the call as it read before'; 0 by the template 'total and deterministic' (their statements: YtlamhobkmknnpaaTotals.lean).
  GIVEN WITH THE SEED: the statements are not yours to turn. If you find one false, say at which input.
  Laid BY PROGRAM, IN A SANDBOX (cutbox-rows.mjs): the forced cells as the released guide's own fill.sh prints them over the translation 99ef824bcd636309… (all of the seat's roots in one cut). By AI agents, Wed Nov 11 2026. No macro, syntax, notation, axiom, sorry.
-/
import Derived.Test.YtlamhobkmknnpaaChecked
import GoSem.Claim
import GoSem.ClaimJoined
import GoSem.ClaimMapViews
import Derived.JoinedTies
import Derived.KernelRfl
namespace Go.Proofs.Ytlamhobkmknnpaa
/- THE CELL 'sum', in the pinned program and in every row, IS THE sha256 OF THE DUMP (.gsa) THAT YtlamhobkmknnpaaProg.lean LOADS. Nothing in Lean hashes anything: it is a label: what it is worth is what the hold of that sum in a sandbox is worth. -/
noncomputable def Try.pinned : Pinned := { name := "ytlamhobkmknnpaa", sum := "99ef824bcd636309f9235ea0cda96318fa1f5e0c422e7c75eb893633f4843309", checked := Try.checked }
namespace Rows
def none {H : Type} : Left H := { results := [], args := [] }

/-- 'caravanlaw10.WatchOwn': WHATEVER THE INPUT: true; the input reads as it did. -/
def watchOwnSpec : ChangeSpec := { name := "watchOwn", fn := fun _ => fun
  | [d1, d2] => { results := [.lit (.bool true)], args := [d1, d2] }
  | _ => none }
def watchOwnRow : OpenClaim := { program := "ytlamhobkmknnpaa", sum := "99ef824bcd636309f9235ea0cda96318fa1f5e0c422e7c75eb893633f4843309", func := "caravan/caravanlaw10.WatchOwn", spec := "watchOwn", unfollowed := true, recurses := true, apart := false }
def WatchOwnSaid : Prop := watchOwnRow.holds Try.pinned (OpenSpec.ofChange watchOwnSpec)

/-- ITS FALSE NEIGHBOUR: 'it returns false'. Refute it at one input. -/
def watchOwnWrong : ChangeSpec := { name := "watchOwn", fn := fun _ => fun
  | [d1, d2] => { results := [.lit (.bool false)], args := [d1, d2] }
  | _ => none }
def WatchOwnWrongFalsely : Prop := watchOwnRow.holds Try.pinned (OpenSpec.ofChange watchOwnWrong)

/-- 'caravanlaw10.WatchAsks': WHATEVER THE INPUT: true; the input reads as it did. -/
def watchAsksSpec : ChangeSpec := { name := "watchAsks", fn := fun _ => fun
  | [d1, d2, d3] => { results := [.lit (.bool true)], args := [d1, d2, d3] }
  | _ => none }
def watchAsksRow : OpenClaim := { program := "ytlamhobkmknnpaa", sum := "99ef824bcd636309f9235ea0cda96318fa1f5e0c422e7c75eb893633f4843309", func := "caravan/caravanlaw10.WatchAsks", spec := "watchAsks", unfollowed := true, recurses := true, apart := false }
def WatchAsksSaid : Prop := watchAsksRow.holds Try.pinned (OpenSpec.ofChange watchAsksSpec)

/-- ITS FALSE NEIGHBOUR: 'it returns false'. Refute it at one input. -/
def watchAsksWrong : ChangeSpec := { name := "watchAsks", fn := fun _ => fun
  | [d1, d2, d3] => { results := [.lit (.bool false)], args := [d1, d2, d3] }
  | _ => none }
def WatchAsksWrongFalsely : Prop := watchAsksRow.holds Try.pinned (OpenSpec.ofChange watchAsksWrong)

/-- 'caravanlaw10.WatchRounds': WHATEVER THE INPUT: true; the input reads as it did. -/
def watchRoundsSpec : ChangeSpec := { name := "watchRounds", fn := fun _ => fun
  | [d1, d2] => { results := [.lit (.bool true)], args := [d1, d2] }
  | _ => none }
def watchRoundsRow : OpenClaim := { program := "ytlamhobkmknnpaa", sum := "99ef824bcd636309f9235ea0cda96318fa1f5e0c422e7c75eb893633f4843309", func := "caravan/caravanlaw10.WatchRounds", spec := "watchRounds", unfollowed := true, recurses := true, apart := false }
def WatchRoundsSaid : Prop := watchRoundsRow.holds Try.pinned (OpenSpec.ofChange watchRoundsSpec)

/-- ITS FALSE NEIGHBOUR: 'it returns false'. Refute it at one input. -/
def watchRoundsWrong : ChangeSpec := { name := "watchRounds", fn := fun _ => fun
  | [d1, d2] => { results := [.lit (.bool false)], args := [d1, d2] }
  | _ => none }
def WatchRoundsWrongFalsely : Prop := watchRoundsRow.holds Try.pinned (OpenSpec.ofChange watchRoundsWrong)

/-- 'caravanlaw10.WatchSuspects': WHATEVER THE INPUT: true; the input reads as it did. -/
def watchSuspectsSpec : ChangeSpec := { name := "watchSuspects", fn := fun _ => fun
  | [d1, d2] => { results := [.lit (.bool true)], args := [d1, d2] }
  | _ => none }
def watchSuspectsRow : OpenClaim := { program := "ytlamhobkmknnpaa", sum := "99ef824bcd636309f9235ea0cda96318fa1f5e0c422e7c75eb893633f4843309", func := "caravan/caravanlaw10.WatchSuspects", spec := "watchSuspects", unfollowed := true, recurses := true, apart := false }
def WatchSuspectsSaid : Prop := watchSuspectsRow.holds Try.pinned (OpenSpec.ofChange watchSuspectsSpec)

/-- ITS FALSE NEIGHBOUR: 'it returns false'. Refute it at one input. -/
def watchSuspectsWrong : ChangeSpec := { name := "watchSuspects", fn := fun _ => fun
  | [d1, d2] => { results := [.lit (.bool false)], args := [d1, d2] }
  | _ => none }
def WatchSuspectsWrongFalsely : Prop := watchSuspectsRow.holds Try.pinned (OpenSpec.ofChange watchSuspectsWrong)

/-- 'caravanlaw10.WatchNil': WHATEVER THE INPUT: true; the input reads as it did. -/
def watchNilSpec : ChangeSpec := { name := "watchNil", fn := fun _ => fun
  | [d] => { results := [.lit (.bool true)], args := [d] }
  | _ => none }
def watchNilRow : OpenClaim := { program := "ytlamhobkmknnpaa", sum := "99ef824bcd636309f9235ea0cda96318fa1f5e0c422e7c75eb893633f4843309", func := "caravan/caravanlaw10.WatchNil", spec := "watchNil", unfollowed := true, recurses := true, apart := false }
def WatchNilSaid : Prop := watchNilRow.holds Try.pinned (OpenSpec.ofChange watchNilSpec)

/-- ITS FALSE NEIGHBOUR: 'it returns false'. Refute it at one input. -/
def watchNilWrong : ChangeSpec := { name := "watchNil", fn := fun _ => fun
  | [d] => { results := [.lit (.bool false)], args := [d] }
  | _ => none }
def WatchNilWrongFalsely : Prop := watchNilRow.holds Try.pinned (OpenSpec.ofChange watchNilWrong)

/- THE SECOND FORM. 'bulk': how many values and letters a reading holds, each counted each time it is reached (what is shared counts as often as it is met; a slice's spare places count too). A statement '..UptoSaid' is the law's where the arguments, and the package variables that the reading takes, are together of bulk at most 1048576: NARROWER than '..Said'. Prove '..Said' where nothing that the law and all that it calls make is longer than what came in: it says more and counts as full. Else prove '..UptoSaid'. A law counts once. -/
mutual
def uptoBulk {H : Type} : DataW H → Nat
  | .lit (.string bytes) => bytes.length + 1
  | .lit _ => 1
  | .nil => 1
  | .ptr d => uptoBulk d + 1
  | .slice elems spare => uptoBulkAll elems + uptoBulkAll spare + 1
  | .agg parts => uptoBulkAll parts + 1
  | .iface _ d => uptoBulk d + 1
  | .map entries => uptoBulkEntries entries + 1
  | .held _ => 1
def uptoBulkAll {H : Type} : List (DataW H) → Nat
  | [] => 0
  | d :: r => uptoBulk d + uptoBulkAll r
def uptoBulkEntries {H : Type} : List (Lit × DataW H) → Nat
  | [] => 0
  | x :: r => uptoBulkEntry x + uptoBulkEntries r
def uptoBulkEntry {H : Type} : Lit × DataW H → Nat
  | (.string bytes, d) => bytes.length + uptoBulk d + 1
  | (_, d) => uptoBulk d + 1
 end
def uptoSmall : (H : Type) → List (DataW H) → Bool := fun _ ds => decide (uptoBulkAll ds ≤ 1048576)
def OpenSpec.upto (s : _root_.Go.ChangeSpec) : _root_.Go.OpenSpec := { _root_.Go.OpenSpec.ofChange s with cond := some uptoSmall }

/-- 'caravanlaw10.WatchOwn', WHERE WHAT IT READS IS OF BULK AT MOST 1048576: true; the input reads as it did. -/
def watchOwnUptoRow : OpenClaim := { program := "ytlamhobkmknnpaa", sum := "99ef824bcd636309f9235ea0cda96318fa1f5e0c422e7c75eb893633f4843309", func := "caravan/caravanlaw10.WatchOwn", spec := "watchOwn", unfollowed := true, recurses := true, apart := false, narrowed := true }
def WatchOwnUptoSaid : Prop := watchOwnUptoRow.holds Try.pinned (OpenSpec.upto watchOwnSpec)

/-- 'caravanlaw10.WatchAsks', WHERE WHAT IT READS IS OF BULK AT MOST 1048576: true; the input reads as it did. -/
def watchAsksUptoRow : OpenClaim := { program := "ytlamhobkmknnpaa", sum := "99ef824bcd636309f9235ea0cda96318fa1f5e0c422e7c75eb893633f4843309", func := "caravan/caravanlaw10.WatchAsks", spec := "watchAsks", unfollowed := true, recurses := true, apart := false, narrowed := true }
def WatchAsksUptoSaid : Prop := watchAsksUptoRow.holds Try.pinned (OpenSpec.upto watchAsksSpec)

/-- 'caravanlaw10.WatchRounds', WHERE WHAT IT READS IS OF BULK AT MOST 1048576: true; the input reads as it did. -/
def watchRoundsUptoRow : OpenClaim := { program := "ytlamhobkmknnpaa", sum := "99ef824bcd636309f9235ea0cda96318fa1f5e0c422e7c75eb893633f4843309", func := "caravan/caravanlaw10.WatchRounds", spec := "watchRounds", unfollowed := true, recurses := true, apart := false, narrowed := true }
def WatchRoundsUptoSaid : Prop := watchRoundsUptoRow.holds Try.pinned (OpenSpec.upto watchRoundsSpec)

/-- 'caravanlaw10.WatchSuspects', WHERE WHAT IT READS IS OF BULK AT MOST 1048576: true; the input reads as it did. -/
def watchSuspectsUptoRow : OpenClaim := { program := "ytlamhobkmknnpaa", sum := "99ef824bcd636309f9235ea0cda96318fa1f5e0c422e7c75eb893633f4843309", func := "caravan/caravanlaw10.WatchSuspects", spec := "watchSuspects", unfollowed := true, recurses := true, apart := false, narrowed := true }
def WatchSuspectsUptoSaid : Prop := watchSuspectsUptoRow.holds Try.pinned (OpenSpec.upto watchSuspectsSpec)

/-- 'caravanlaw10.WatchNil', WHERE WHAT IT READS IS OF BULK AT MOST 1048576: true; the input reads as it did. -/
def watchNilUptoRow : OpenClaim := { program := "ytlamhobkmknnpaa", sum := "99ef824bcd636309f9235ea0cda96318fa1f5e0c422e7c75eb893633f4843309", func := "caravan/caravanlaw10.WatchNil", spec := "watchNil", unfollowed := true, recurses := true, apart := false, narrowed := true }
def WatchNilUptoSaid : Prop := watchNilUptoRow.holds Try.pinned (OpenSpec.upto watchNilSpec)

end Rows
end Go.Proofs.Ytlamhobkmknnpaa
