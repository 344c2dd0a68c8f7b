/-
  No cell of these rows narrows 'for every input' (looked for: loops, veiled, ifaces, maps, wideKeys, modest, calm, conditions, laid).
  DERIVED. THE GIVEN ROWS OF THIS SEAT. 5 by the template 'for every input the law returns true; each argument reads behind the call as it read before'; 0 by the template 'total and deterministic' (their statements: YthghccccjmbjlaaTotals.lean).
  GIVEN WITH THE SEED: the statements are not yours to turn. If you find one false, say at which input.
  Laid BY PROGRAM, IN A SANDBOX (cutbox-rows.mjs): the forced cells as the released guide's own fill.sh prints them over the translation 145a3ae3c7e89a3b… (all of the seat's roots in one cut). By AI agents, Wed Nov 11 2026. No macro, syntax, notation, axiom, sorry.
-/
import Derived.Test.YthghccccjmbjlaaChecked
import GoSem.Claim
import GoSem.ClaimJoined
import GoSem.ClaimMapViews
import Derived.JoinedTies
import Derived.KernelRfl
namespace Go.Proofs.Ythghccccjmbjlaa
/- THE CELL 'sum', in the pinned program and in every row, IS THE sha256 OF THE DUMP (.gsa) THAT YthghccccjmbjlaaProg.lean LOADS. Nothing in Lean hashes anything: it is a label: what it is worth is what the hold of that sum in a sandbox is worth. -/
noncomputable def Try.pinned : Pinned := { name := "ythghccccjmbjlaa", sum := "145a3ae3c7e89a3bc6679b8026913641381d21fba8b0ec1e5bf3e207f458d9a5", checked := Try.checked }
namespace Rows
def none {H : Type} : Left H := { results := [], args := [] }

/-- 'caravanlaw17.TallyPlays': WHATEVER THE INPUT: true; the input reads as it did. -/
def tallyPlaysSpec : ChangeSpec := { name := "tallyPlays", fn := fun _ => fun
  | [d1, d2, d3] => { results := [.lit (.bool true)], args := [d1, d2, d3] }
  | _ => none }
def tallyPlaysRow : OpenClaim := { program := "ythghccccjmbjlaa", sum := "145a3ae3c7e89a3bc6679b8026913641381d21fba8b0ec1e5bf3e207f458d9a5", func := "caravan/caravanlaw17.TallyPlays", spec := "tallyPlays", unfollowed := true, recurses := true, apart := false }
def TallyPlaysSaid : Prop := tallyPlaysRow.holds Try.pinned (OpenSpec.ofChange tallyPlaysSpec)

/-- ITS FALSE NEIGHBOUR: 'it returns false'. Refute it at one input. -/
def tallyPlaysWrong : ChangeSpec := { name := "tallyPlays", fn := fun _ => fun
  | [d1, d2, d3] => { results := [.lit (.bool false)], args := [d1, d2, d3] }
  | _ => none }
def TallyPlaysWrongFalsely : Prop := tallyPlaysRow.holds Try.pinned (OpenSpec.ofChange tallyPlaysWrong)

/-- 'caravanlaw17.TallyMeets': WHATEVER THE INPUT: true; the input reads as it did. -/
def tallyMeetsSpec : ChangeSpec := { name := "tallyMeets", fn := fun _ => fun
  | [d1, d2, d3] => { results := [.lit (.bool true)], args := [d1, d2, d3] }
  | _ => none }
def tallyMeetsRow : OpenClaim := { program := "ythghccccjmbjlaa", sum := "145a3ae3c7e89a3bc6679b8026913641381d21fba8b0ec1e5bf3e207f458d9a5", func := "caravan/caravanlaw17.TallyMeets", spec := "tallyMeets", unfollowed := true, recurses := true, apart := false }
def TallyMeetsSaid : Prop := tallyMeetsRow.holds Try.pinned (OpenSpec.ofChange tallyMeetsSpec)

/-- ITS FALSE NEIGHBOUR: 'it returns false'. Refute it at one input. -/
def tallyMeetsWrong : ChangeSpec := { name := "tallyMeets", fn := fun _ => fun
  | [d1, d2, d3] => { results := [.lit (.bool false)], args := [d1, d2, d3] }
  | _ => none }
def TallyMeetsWrongFalsely : Prop := tallyMeetsRow.holds Try.pinned (OpenSpec.ofChange tallyMeetsWrong)

/-- 'caravanlaw17.TallyStays': WHATEVER THE INPUT: true; the input reads as it did. -/
def tallyStaysSpec : ChangeSpec := { name := "tallyStays", fn := fun _ => fun
  | [d1, d2, d3] => { results := [.lit (.bool true)], args := [d1, d2, d3] }
  | _ => none }
def tallyStaysRow : OpenClaim := { program := "ythghccccjmbjlaa", sum := "145a3ae3c7e89a3bc6679b8026913641381d21fba8b0ec1e5bf3e207f458d9a5", func := "caravan/caravanlaw17.TallyStays", spec := "tallyStays", unfollowed := true, recurses := true, apart := false }
def TallyStaysSaid : Prop := tallyStaysRow.holds Try.pinned (OpenSpec.ofChange tallyStaysSpec)

/-- ITS FALSE NEIGHBOUR: 'it returns false'. Refute it at one input. -/
def tallyStaysWrong : ChangeSpec := { name := "tallyStays", fn := fun _ => fun
  | [d1, d2, d3] => { results := [.lit (.bool false)], args := [d1, d2, d3] }
  | _ => none }
def TallyStaysWrongFalsely : Prop := tallyStaysRow.holds Try.pinned (OpenSpec.ofChange tallyStaysWrong)

/-- 'caravanlaw17.TallyNil': WHATEVER THE INPUT: true; the input reads as it did. -/
def tallyNilSpec : ChangeSpec := { name := "tallyNil", fn := fun _ => fun
  | [d] => { results := [.lit (.bool true)], args := [d] }
  | _ => none }
def tallyNilRow : OpenClaim := { program := "ythghccccjmbjlaa", sum := "145a3ae3c7e89a3bc6679b8026913641381d21fba8b0ec1e5bf3e207f458d9a5", func := "caravan/caravanlaw17.TallyNil", spec := "tallyNil", unfollowed := true, recurses := true, apart := false }
def TallyNilSaid : Prop := tallyNilRow.holds Try.pinned (OpenSpec.ofChange tallyNilSpec)

/-- ITS FALSE NEIGHBOUR: 'it returns false'. Refute it at one input. -/
def tallyNilWrong : ChangeSpec := { name := "tallyNil", fn := fun _ => fun
  | [d] => { results := [.lit (.bool false)], args := [d] }
  | _ => none }
def TallyNilWrongFalsely : Prop := tallyNilRow.holds Try.pinned (OpenSpec.ofChange tallyNilWrong)

/-- 'caravanlaw17.TallyCounts': WHATEVER THE INPUT: true; the input reads as it did. -/
def tallyCountsSpec : ChangeSpec := { name := "tallyCounts", fn := fun _ => fun
  | [d1, d2] => { results := [.lit (.bool true)], args := [d1, d2] }
  | _ => none }
def tallyCountsRow : OpenClaim := { program := "ythghccccjmbjlaa", sum := "145a3ae3c7e89a3bc6679b8026913641381d21fba8b0ec1e5bf3e207f458d9a5", func := "caravan/caravanlaw17.TallyCounts", spec := "tallyCounts", unfollowed := true, recurses := true, apart := false }
def TallyCountsSaid : Prop := tallyCountsRow.holds Try.pinned (OpenSpec.ofChange tallyCountsSpec)

/-- ITS FALSE NEIGHBOUR: 'it returns false'. Refute it at one input. -/
def tallyCountsWrong : ChangeSpec := { name := "tallyCounts", fn := fun _ => fun
  | [d1, d2] => { results := [.lit (.bool false)], args := [d1, d2] }
  | _ => none }
def TallyCountsWrongFalsely : Prop := tallyCountsRow.holds Try.pinned (OpenSpec.ofChange tallyCountsWrong)

/- THE SECOND FORM. 'bulk': how many values and letters a reading holds, each counted each time it is reached (what is shared counts as often as it is met; a slice's spare places count too). A statement '..UptoSaid' is the law's where the arguments, and the package variables that the reading takes, are together of bulk at most 1048576: NARROWER than '..Said'. Prove '..Said' where nothing that the law and all that it calls make is longer than what came in: it says more and counts as full. Else prove '..UptoSaid'. A law counts once. -/
mutual
def uptoBulk {H : Type} : DataW H → Nat
  | .lit (.string bytes) => bytes.length + 1
  | .lit _ => 1
  | .nil => 1
  | .ptr d => uptoBulk d + 1
  | .slice elems spare => uptoBulkAll elems + uptoBulkAll spare + 1
  | .agg parts => uptoBulkAll parts + 1
  | .iface _ d => uptoBulk d + 1
  | .map entries => uptoBulkEntries entries + 1
  | .held _ => 1
def uptoBulkAll {H : Type} : List (DataW H) → Nat
  | [] => 0
  | d :: r => uptoBulk d + uptoBulkAll r
def uptoBulkEntries {H : Type} : List (Lit × DataW H) → Nat
  | [] => 0
  | x :: r => uptoBulkEntry x + uptoBulkEntries r
def uptoBulkEntry {H : Type} : Lit × DataW H → Nat
  | (.string bytes, d) => bytes.length + uptoBulk d + 1
  | (_, d) => uptoBulk d + 1
 end
def uptoSmall : (H : Type) → List (DataW H) → Bool := fun _ ds => decide (uptoBulkAll ds ≤ 1048576)
def OpenSpec.upto (s : _root_.Go.ChangeSpec) : _root_.Go.OpenSpec := { _root_.Go.OpenSpec.ofChange s with cond := some uptoSmall }

/-- 'caravanlaw17.TallyPlays', WHERE WHAT IT READS IS OF BULK AT MOST 1048576: true; the input reads as it did. -/
def tallyPlaysUptoRow : OpenClaim := { program := "ythghccccjmbjlaa", sum := "145a3ae3c7e89a3bc6679b8026913641381d21fba8b0ec1e5bf3e207f458d9a5", func := "caravan/caravanlaw17.TallyPlays", spec := "tallyPlays", unfollowed := true, recurses := true, apart := false, narrowed := true }
def TallyPlaysUptoSaid : Prop := tallyPlaysUptoRow.holds Try.pinned (OpenSpec.upto tallyPlaysSpec)

/-- 'caravanlaw17.TallyMeets', WHERE WHAT IT READS IS OF BULK AT MOST 1048576: true; the input reads as it did. -/
def tallyMeetsUptoRow : OpenClaim := { program := "ythghccccjmbjlaa", sum := "145a3ae3c7e89a3bc6679b8026913641381d21fba8b0ec1e5bf3e207f458d9a5", func := "caravan/caravanlaw17.TallyMeets", spec := "tallyMeets", unfollowed := true, recurses := true, apart := false, narrowed := true }
def TallyMeetsUptoSaid : Prop := tallyMeetsUptoRow.holds Try.pinned (OpenSpec.upto tallyMeetsSpec)

/-- 'caravanlaw17.TallyStays', WHERE WHAT IT READS IS OF BULK AT MOST 1048576: true; the input reads as it did. -/
def tallyStaysUptoRow : OpenClaim := { program := "ythghccccjmbjlaa", sum := "145a3ae3c7e89a3bc6679b8026913641381d21fba8b0ec1e5bf3e207f458d9a5", func := "caravan/caravanlaw17.TallyStays", spec := "tallyStays", unfollowed := true, recurses := true, apart := false, narrowed := true }
def TallyStaysUptoSaid : Prop := tallyStaysUptoRow.holds Try.pinned (OpenSpec.upto tallyStaysSpec)

/-- 'caravanlaw17.TallyNil', WHERE WHAT IT READS IS OF BULK AT MOST 1048576: true; the input reads as it did. -/
def tallyNilUptoRow : OpenClaim := { program := "ythghccccjmbjlaa", sum := "145a3ae3c7e89a3bc6679b8026913641381d21fba8b0ec1e5bf3e207f458d9a5", func := "caravan/caravanlaw17.TallyNil", spec := "tallyNil", unfollowed := true, recurses := true, apart := false, narrowed := true }
def TallyNilUptoSaid : Prop := tallyNilUptoRow.holds Try.pinned (OpenSpec.upto tallyNilSpec)

/-- 'caravanlaw17.TallyCounts', WHERE WHAT IT READS IS OF BULK AT MOST 1048576: true; the input reads as it did. -/
def tallyCountsUptoRow : OpenClaim := { program := "ythghccccjmbjlaa", sum := "145a3ae3c7e89a3bc6679b8026913641381d21fba8b0ec1e5bf3e207f458d9a5", func := "caravan/caravanlaw17.TallyCounts", spec := "tallyCounts", unfollowed := true, recurses := true, apart := false, narrowed := true }
def TallyCountsUptoSaid : Prop := tallyCountsUptoRow.holds Try.pinned (OpenSpec.upto tallyCountsSpec)

end Rows
end Go.Proofs.Ythghccccjmbjlaa
