/-
  No cell of these rows narrows 'for every input' (looked for: loops, veiled, ifaces, maps, wideKeys, modest, calm, conditions, laid).
  DERIVED. THE GIVEN ROWS OF THIS SEAT. 5 by the template 'for every input the law returns true; each argument reads behind the call as it read before'; 0 by the template 'total and deterministic' (their statements: YtffafdkjgllpcaaTotals.lean).
  GIVEN WITH THE SEED: the statements are not yours to turn. If you find one false, say at which input.
  Laid BY PROGRAM, IN A SANDBOX (cutbox-rows.mjs): the forced cells as the released guide's own fill.sh prints them over the translation 8da1d005b1afacb8… (all of the seat's roots in one cut). By AI agents, Wed Nov 11 2026. No macro, syntax, notation, axiom, sorry.
-/
import Derived.Test.YtffafdkjgllpcaaChecked
import GoSem.Claim
import GoSem.ClaimJoined
import GoSem.ClaimMapViews
import Derived.JoinedTies
import Derived.KernelRfl
namespace Go.Proofs.Ytffafdkjgllpcaa
/- THE CELL 'sum', in the pinned program and in every row, IS THE sha256 OF THE DUMP (.gsa) THAT YtffafdkjgllpcaaProg.lean LOADS. Nothing in Lean hashes anything: it is a label: what it is worth is what the hold of that sum in a sandbox is worth. -/
noncomputable def Try.pinned : Pinned := { name := "ytffafdkjgllpcaa", sum := "8da1d005b1afacb8c670e6bc7e5587c556a961d1d6823d30c37a2733958dab7d", checked := Try.checked }
namespace Rows
def none {H : Type} : Left H := { results := [], args := [] }

/-- 'caravanlaw16.ClaimOne': WHATEVER THE INPUT: true; the input reads as it did. -/
def claimOneSpec : ChangeSpec := { name := "claimOne", fn := fun _ => fun
  | [d1, d2, d3] => { results := [.lit (.bool true)], args := [d1, d2, d3] }
  | _ => none }
def claimOneRow : OpenClaim := { program := "ytffafdkjgllpcaa", sum := "8da1d005b1afacb8c670e6bc7e5587c556a961d1d6823d30c37a2733958dab7d", func := "caravan/caravanlaw16.ClaimOne", spec := "claimOne", unfollowed := true, recurses := true, apart := false }
def ClaimOneSaid : Prop := claimOneRow.holds Try.pinned (OpenSpec.ofChange claimOneSpec)

/-- ITS FALSE NEIGHBOUR: 'it returns false'. Refute it at one input. -/
def claimOneWrong : ChangeSpec := { name := "claimOne", fn := fun _ => fun
  | [d1, d2, d3] => { results := [.lit (.bool false)], args := [d1, d2, d3] }
  | _ => none }
def ClaimOneWrongFalsely : Prop := claimOneRow.holds Try.pinned (OpenSpec.ofChange claimOneWrong)

/-- 'caravanlaw16.ClaimCounts': WHATEVER THE INPUT: true; the input reads as it did. -/
def claimCountsSpec : ChangeSpec := { name := "claimCounts", fn := fun _ => fun
  | [d1, d2, d3] => { results := [.lit (.bool true)], args := [d1, d2, d3] }
  | _ => none }
def claimCountsRow : OpenClaim := { program := "ytffafdkjgllpcaa", sum := "8da1d005b1afacb8c670e6bc7e5587c556a961d1d6823d30c37a2733958dab7d", func := "caravan/caravanlaw16.ClaimCounts", spec := "claimCounts", unfollowed := true, recurses := true, apart := false }
def ClaimCountsSaid : Prop := claimCountsRow.holds Try.pinned (OpenSpec.ofChange claimCountsSpec)

/-- ITS FALSE NEIGHBOUR: 'it returns false'. Refute it at one input. -/
def claimCountsWrong : ChangeSpec := { name := "claimCounts", fn := fun _ => fun
  | [d1, d2, d3] => { results := [.lit (.bool false)], args := [d1, d2, d3] }
  | _ => none }
def ClaimCountsWrongFalsely : Prop := claimCountsRow.holds Try.pinned (OpenSpec.ofChange claimCountsWrong)

/-- 'caravanlaw16.ClaimStays': WHATEVER THE INPUT: true; the input reads as it did. -/
def claimStaysSpec : ChangeSpec := { name := "claimStays", fn := fun _ => fun
  | [d1, d2] => { results := [.lit (.bool true)], args := [d1, d2] }
  | _ => none }
def claimStaysRow : OpenClaim := { program := "ytffafdkjgllpcaa", sum := "8da1d005b1afacb8c670e6bc7e5587c556a961d1d6823d30c37a2733958dab7d", func := "caravan/caravanlaw16.ClaimStays", spec := "claimStays", unfollowed := true, recurses := true, apart := false }
def ClaimStaysSaid : Prop := claimStaysRow.holds Try.pinned (OpenSpec.ofChange claimStaysSpec)

/-- ITS FALSE NEIGHBOUR: 'it returns false'. Refute it at one input. -/
def claimStaysWrong : ChangeSpec := { name := "claimStays", fn := fun _ => fun
  | [d1, d2] => { results := [.lit (.bool false)], args := [d1, d2] }
  | _ => none }
def ClaimStaysWrongFalsely : Prop := claimStaysRow.holds Try.pinned (OpenSpec.ofChange claimStaysWrong)

/-- 'caravanlaw16.ClaimPlays': WHATEVER THE INPUT: true; the input reads as it did. -/
def claimPlaysSpec : ChangeSpec := { name := "claimPlays", fn := fun _ => fun
  | [d1, d2, d3] => { results := [.lit (.bool true)], args := [d1, d2, d3] }
  | _ => none }
def claimPlaysRow : OpenClaim := { program := "ytffafdkjgllpcaa", sum := "8da1d005b1afacb8c670e6bc7e5587c556a961d1d6823d30c37a2733958dab7d", func := "caravan/caravanlaw16.ClaimPlays", spec := "claimPlays", unfollowed := true, recurses := true, apart := false }
def ClaimPlaysSaid : Prop := claimPlaysRow.holds Try.pinned (OpenSpec.ofChange claimPlaysSpec)

/-- ITS FALSE NEIGHBOUR: 'it returns false'. Refute it at one input. -/
def claimPlaysWrong : ChangeSpec := { name := "claimPlays", fn := fun _ => fun
  | [d1, d2, d3] => { results := [.lit (.bool false)], args := [d1, d2, d3] }
  | _ => none }
def ClaimPlaysWrongFalsely : Prop := claimPlaysRow.holds Try.pinned (OpenSpec.ofChange claimPlaysWrong)

/-- 'caravanlaw16.ClaimNil': WHATEVER THE INPUT: true; the input reads as it did. -/
def claimNilSpec : ChangeSpec := { name := "claimNil", fn := fun _ => fun
  | [d] => { results := [.lit (.bool true)], args := [d] }
  | _ => none }
def claimNilRow : OpenClaim := { program := "ytffafdkjgllpcaa", sum := "8da1d005b1afacb8c670e6bc7e5587c556a961d1d6823d30c37a2733958dab7d", func := "caravan/caravanlaw16.ClaimNil", spec := "claimNil", unfollowed := true, recurses := true, apart := false }
def ClaimNilSaid : Prop := claimNilRow.holds Try.pinned (OpenSpec.ofChange claimNilSpec)

/-- ITS FALSE NEIGHBOUR: 'it returns false'. Refute it at one input. -/
def claimNilWrong : ChangeSpec := { name := "claimNil", fn := fun _ => fun
  | [d] => { results := [.lit (.bool false)], args := [d] }
  | _ => none }
def ClaimNilWrongFalsely : Prop := claimNilRow.holds Try.pinned (OpenSpec.ofChange claimNilWrong)

/- THE SECOND FORM. 'bulk': how many values and letters a reading holds, each counted each time it is reached (what is shared counts as often as it is met; a slice's spare places count too). A statement '..UptoSaid' is the law's where the arguments, and the package variables that the reading takes, are together of bulk at most 1048576: NARROWER than '..Said'. Prove '..Said' where nothing that the law and all that it calls make is longer than what came in: it says more and counts as full. Else prove '..UptoSaid'. A law counts once. -/
mutual
def uptoBulk {H : Type} : DataW H → Nat
  | .lit (.string bytes) => bytes.length + 1
  | .lit _ => 1
  | .nil => 1
  | .ptr d => uptoBulk d + 1
  | .slice elems spare => uptoBulkAll elems + uptoBulkAll spare + 1
  | .agg parts => uptoBulkAll parts + 1
  | .iface _ d => uptoBulk d + 1
  | .map entries => uptoBulkEntries entries + 1
  | .held _ => 1
def uptoBulkAll {H : Type} : List (DataW H) → Nat
  | [] => 0
  | d :: r => uptoBulk d + uptoBulkAll r
def uptoBulkEntries {H : Type} : List (Lit × DataW H) → Nat
  | [] => 0
  | x :: r => uptoBulkEntry x + uptoBulkEntries r
def uptoBulkEntry {H : Type} : Lit × DataW H → Nat
  | (.string bytes, d) => bytes.length + uptoBulk d + 1
  | (_, d) => uptoBulk d + 1
 end
def uptoSmall : (H : Type) → List (DataW H) → Bool := fun _ ds => decide (uptoBulkAll ds ≤ 1048576)
def OpenSpec.upto (s : _root_.Go.ChangeSpec) : _root_.Go.OpenSpec := { _root_.Go.OpenSpec.ofChange s with cond := some uptoSmall }

/-- 'caravanlaw16.ClaimOne', WHERE WHAT IT READS IS OF BULK AT MOST 1048576: true; the input reads as it did. -/
def claimOneUptoRow : OpenClaim := { program := "ytffafdkjgllpcaa", sum := "8da1d005b1afacb8c670e6bc7e5587c556a961d1d6823d30c37a2733958dab7d", func := "caravan/caravanlaw16.ClaimOne", spec := "claimOne", unfollowed := true, recurses := true, apart := false, narrowed := true }
def ClaimOneUptoSaid : Prop := claimOneUptoRow.holds Try.pinned (OpenSpec.upto claimOneSpec)

/-- 'caravanlaw16.ClaimCounts', WHERE WHAT IT READS IS OF BULK AT MOST 1048576: true; the input reads as it did. -/
def claimCountsUptoRow : OpenClaim := { program := "ytffafdkjgllpcaa", sum := "8da1d005b1afacb8c670e6bc7e5587c556a961d1d6823d30c37a2733958dab7d", func := "caravan/caravanlaw16.ClaimCounts", spec := "claimCounts", unfollowed := true, recurses := true, apart := false, narrowed := true }
def ClaimCountsUptoSaid : Prop := claimCountsUptoRow.holds Try.pinned (OpenSpec.upto claimCountsSpec)

/-- 'caravanlaw16.ClaimStays', WHERE WHAT IT READS IS OF BULK AT MOST 1048576: true; the input reads as it did. -/
def claimStaysUptoRow : OpenClaim := { program := "ytffafdkjgllpcaa", sum := "8da1d005b1afacb8c670e6bc7e5587c556a961d1d6823d30c37a2733958dab7d", func := "caravan/caravanlaw16.ClaimStays", spec := "claimStays", unfollowed := true, recurses := true, apart := false, narrowed := true }
def ClaimStaysUptoSaid : Prop := claimStaysUptoRow.holds Try.pinned (OpenSpec.upto claimStaysSpec)

/-- 'caravanlaw16.ClaimPlays', WHERE WHAT IT READS IS OF BULK AT MOST 1048576: true; the input reads as it did. -/
def claimPlaysUptoRow : OpenClaim := { program := "ytffafdkjgllpcaa", sum := "8da1d005b1afacb8c670e6bc7e5587c556a961d1d6823d30c37a2733958dab7d", func := "caravan/caravanlaw16.ClaimPlays", spec := "claimPlays", unfollowed := true, recurses := true, apart := false, narrowed := true }
def ClaimPlaysUptoSaid : Prop := claimPlaysUptoRow.holds Try.pinned (OpenSpec.upto claimPlaysSpec)

/-- 'caravanlaw16.ClaimNil', WHERE WHAT IT READS IS OF BULK AT MOST 1048576: true; the input reads as it did. -/
def claimNilUptoRow : OpenClaim := { program := "ytffafdkjgllpcaa", sum := "8da1d005b1afacb8c670e6bc7e5587c556a961d1d6823d30c37a2733958dab7d", func := "caravan/caravanlaw16.ClaimNil", spec := "claimNil", unfollowed := true, recurses := true, apart := false, narrowed := true }
def ClaimNilUptoSaid : Prop := claimNilUptoRow.holds Try.pinned (OpenSpec.upto claimNilSpec)

end Rows
end Go.Proofs.Ytffafdkjgllpcaa
