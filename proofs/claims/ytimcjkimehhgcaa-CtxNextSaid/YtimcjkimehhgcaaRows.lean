/-
  No cell of these rows narrows 'for every input' (looked for: loops, veiled, ifaces, maps, wideKeys, modest, calm, conditions, laid).
  DERIVED. THE GIVEN ROWS OF THIS SEAT. 6 by the template 'for every input the law returns true; each argument reads behind the call as it read before'; 0 by the template 'total and deterministic' (their statements: YtimcjkimehhgcaaTotals.lean).
  GIVEN WITH THE SEED: the statements are not yours to turn. If you find one false, say at which input.
  Laid BY PROGRAM, IN A SANDBOX (cutbox-rows.mjs): the forced cells as the released guide's own fill.sh prints them over the translation 4efedabb0b8cca8c… (all of the seat's roots in one cut). By AI agents, Wed Nov 11 2026. No macro, syntax, notation, axiom, sorry.
-/
import Derived.Test.YtimcjkimehhgcaaChecked
import GoSem.Claim
import GoSem.ClaimJoined
import GoSem.ClaimMapViews
import Derived.JoinedTies
import Derived.KernelRfl
namespace Go.Proofs.Ytimcjkimehhgcaa
/- THE CELL 'sum', in the pinned program and in every row, IS THE sha256 OF THE DUMP (.gsa) THAT YtimcjkimehhgcaaProg.lean LOADS. Nothing in Lean hashes anything: it is a label: what it is worth is what the hold of that sum in a sandbox is worth. -/
noncomputable def Try.pinned : Pinned := { name := "ytimcjkimehhgcaa", sum := "4efedabb0b8cca8c1a0cd63d1aaeb6f23a1ae0a1dea327b6b7d43ed10f69c1cc", checked := Try.checked }
namespace Rows
def none {H : Type} : Left H := { results := [], args := [] }

/-- 'caravanlaw04.CtxSees': WHATEVER THE INPUT: true; the input reads as it did. -/
def ctxSeesSpec : ChangeSpec := { name := "ctxSees", fn := fun _ => fun
  | [d1, d2, d3] => { results := [.lit (.bool true)], args := [d1, d2, d3] }
  | _ => none }
def ctxSeesRow : OpenClaim := { program := "ytimcjkimehhgcaa", sum := "4efedabb0b8cca8c1a0cd63d1aaeb6f23a1ae0a1dea327b6b7d43ed10f69c1cc", func := "caravan/caravanlaw04.CtxSees", spec := "ctxSees", unfollowed := true, recurses := true, apart := false }
def CtxSeesSaid : Prop := ctxSeesRow.holds Try.pinned (OpenSpec.ofChange ctxSeesSpec)

/-- ITS FALSE NEIGHBOUR: 'it returns false'. Refute it at one input. -/
def ctxSeesWrong : ChangeSpec := { name := "ctxSees", fn := fun _ => fun
  | [d1, d2, d3] => { results := [.lit (.bool false)], args := [d1, d2, d3] }
  | _ => none }
def CtxSeesWrongFalsely : Prop := ctxSeesRow.holds Try.pinned (OpenSpec.ofChange ctxSeesWrong)

/-- 'caravanlaw04.CtxTells': WHATEVER THE INPUT: true; the input reads as it did. -/
def ctxTellsSpec : ChangeSpec := { name := "ctxTells", fn := fun _ => fun
  | [d1, d2, d3] => { results := [.lit (.bool true)], args := [d1, d2, d3] }
  | _ => none }
def ctxTellsRow : OpenClaim := { program := "ytimcjkimehhgcaa", sum := "4efedabb0b8cca8c1a0cd63d1aaeb6f23a1ae0a1dea327b6b7d43ed10f69c1cc", func := "caravan/caravanlaw04.CtxTells", spec := "ctxTells", unfollowed := true, recurses := true, apart := false }
def CtxTellsSaid : Prop := ctxTellsRow.holds Try.pinned (OpenSpec.ofChange ctxTellsSpec)

/-- ITS FALSE NEIGHBOUR: 'it returns false'. Refute it at one input. -/
def ctxTellsWrong : ChangeSpec := { name := "ctxTells", fn := fun _ => fun
  | [d1, d2, d3] => { results := [.lit (.bool false)], args := [d1, d2, d3] }
  | _ => none }
def CtxTellsWrongFalsely : Prop := ctxTellsRow.holds Try.pinned (OpenSpec.ofChange ctxTellsWrong)

/-- 'caravanlaw04.CtxMakes': WHATEVER THE INPUT: true; the input reads as it did. -/
def ctxMakesSpec : ChangeSpec := { name := "ctxMakes", fn := fun _ => fun
  | [d1, d2, d3] => { results := [.lit (.bool true)], args := [d1, d2, d3] }
  | _ => none }
def ctxMakesRow : OpenClaim := { program := "ytimcjkimehhgcaa", sum := "4efedabb0b8cca8c1a0cd63d1aaeb6f23a1ae0a1dea327b6b7d43ed10f69c1cc", func := "caravan/caravanlaw04.CtxMakes", spec := "ctxMakes", unfollowed := true, recurses := true, apart := false }
def CtxMakesSaid : Prop := ctxMakesRow.holds Try.pinned (OpenSpec.ofChange ctxMakesSpec)

/-- ITS FALSE NEIGHBOUR: 'it returns false'. Refute it at one input. -/
def ctxMakesWrong : ChangeSpec := { name := "ctxMakes", fn := fun _ => fun
  | [d1, d2, d3] => { results := [.lit (.bool false)], args := [d1, d2, d3] }
  | _ => none }
def CtxMakesWrongFalsely : Prop := ctxMakesRow.holds Try.pinned (OpenSpec.ofChange ctxMakesWrong)

/-- 'caravanlaw04.CtxJoins': WHATEVER THE INPUT: true; the input reads as it did. -/
def ctxJoinsSpec : ChangeSpec := { name := "ctxJoins", fn := fun _ => fun
  | [d1, d2, d3] => { results := [.lit (.bool true)], args := [d1, d2, d3] }
  | _ => none }
def ctxJoinsRow : OpenClaim := { program := "ytimcjkimehhgcaa", sum := "4efedabb0b8cca8c1a0cd63d1aaeb6f23a1ae0a1dea327b6b7d43ed10f69c1cc", func := "caravan/caravanlaw04.CtxJoins", spec := "ctxJoins", unfollowed := true, recurses := true, apart := false }
def CtxJoinsSaid : Prop := ctxJoinsRow.holds Try.pinned (OpenSpec.ofChange ctxJoinsSpec)

/-- ITS FALSE NEIGHBOUR: 'it returns false'. Refute it at one input. -/
def ctxJoinsWrong : ChangeSpec := { name := "ctxJoins", fn := fun _ => fun
  | [d1, d2, d3] => { results := [.lit (.bool false)], args := [d1, d2, d3] }
  | _ => none }
def CtxJoinsWrongFalsely : Prop := ctxJoinsRow.holds Try.pinned (OpenSpec.ofChange ctxJoinsWrong)

/-- 'caravanlaw04.CtxNext': WHATEVER THE INPUT: true; the input reads as it did. -/
def ctxNextSpec : ChangeSpec := { name := "ctxNext", fn := fun _ => fun
  | [d1, d2, d3] => { results := [.lit (.bool true)], args := [d1, d2, d3] }
  | _ => none }
def ctxNextRow : OpenClaim := { program := "ytimcjkimehhgcaa", sum := "4efedabb0b8cca8c1a0cd63d1aaeb6f23a1ae0a1dea327b6b7d43ed10f69c1cc", func := "caravan/caravanlaw04.CtxNext", spec := "ctxNext", unfollowed := true, recurses := true, apart := false }
def CtxNextSaid : Prop := ctxNextRow.holds Try.pinned (OpenSpec.ofChange ctxNextSpec)

/-- ITS FALSE NEIGHBOUR: 'it returns false'. Refute it at one input. -/
def ctxNextWrong : ChangeSpec := { name := "ctxNext", fn := fun _ => fun
  | [d1, d2, d3] => { results := [.lit (.bool false)], args := [d1, d2, d3] }
  | _ => none }
def CtxNextWrongFalsely : Prop := ctxNextRow.holds Try.pinned (OpenSpec.ofChange ctxNextWrong)

/-- 'caravanlaw04.CtxParts': WHATEVER THE INPUT: true; the input reads as it did. -/
def ctxPartsSpec : ChangeSpec := { name := "ctxParts", fn := fun _ => fun
  | [d1, d2] => { results := [.lit (.bool true)], args := [d1, d2] }
  | _ => none }
def ctxPartsRow : OpenClaim := { program := "ytimcjkimehhgcaa", sum := "4efedabb0b8cca8c1a0cd63d1aaeb6f23a1ae0a1dea327b6b7d43ed10f69c1cc", func := "caravan/caravanlaw04.CtxParts", spec := "ctxParts", unfollowed := true, recurses := true, apart := false }
def CtxPartsSaid : Prop := ctxPartsRow.holds Try.pinned (OpenSpec.ofChange ctxPartsSpec)

/-- ITS FALSE NEIGHBOUR: 'it returns false'. Refute it at one input. -/
def ctxPartsWrong : ChangeSpec := { name := "ctxParts", fn := fun _ => fun
  | [d1, d2] => { results := [.lit (.bool false)], args := [d1, d2] }
  | _ => none }
def CtxPartsWrongFalsely : Prop := ctxPartsRow.holds Try.pinned (OpenSpec.ofChange ctxPartsWrong)

/- THE SECOND FORM. 'bulk': how many values and letters a reading holds, each counted each time it is reached (what is shared counts as often as it is met; a slice's spare places count too). A statement '..UptoSaid' is the law's where the arguments, and the package variables that the reading takes, are together of bulk at most 1048576: NARROWER than '..Said'. Prove '..Said' where nothing that the law and all that it calls make is longer than what came in: it says more and counts as full. Else prove '..UptoSaid'. A law counts once. -/
mutual
def uptoBulk {H : Type} : DataW H → Nat
  | .lit (.string bytes) => bytes.length + 1
  | .lit _ => 1
  | .nil => 1
  | .ptr d => uptoBulk d + 1
  | .slice elems spare => uptoBulkAll elems + uptoBulkAll spare + 1
  | .agg parts => uptoBulkAll parts + 1
  | .iface _ d => uptoBulk d + 1
  | .map entries => uptoBulkEntries entries + 1
  | .held _ => 1
def uptoBulkAll {H : Type} : List (DataW H) → Nat
  | [] => 0
  | d :: r => uptoBulk d + uptoBulkAll r
def uptoBulkEntries {H : Type} : List (Lit × DataW H) → Nat
  | [] => 0
  | x :: r => uptoBulkEntry x + uptoBulkEntries r
def uptoBulkEntry {H : Type} : Lit × DataW H → Nat
  | (.string bytes, d) => bytes.length + uptoBulk d + 1
  | (_, d) => uptoBulk d + 1
 end
def uptoSmall : (H : Type) → List (DataW H) → Bool := fun _ ds => decide (uptoBulkAll ds ≤ 1048576)
def OpenSpec.upto (s : _root_.Go.ChangeSpec) : _root_.Go.OpenSpec := { _root_.Go.OpenSpec.ofChange s with cond := some uptoSmall }

/-- 'caravanlaw04.CtxSees', WHERE WHAT IT READS IS OF BULK AT MOST 1048576: true; the input reads as it did. -/
def ctxSeesUptoRow : OpenClaim := { program := "ytimcjkimehhgcaa", sum := "4efedabb0b8cca8c1a0cd63d1aaeb6f23a1ae0a1dea327b6b7d43ed10f69c1cc", func := "caravan/caravanlaw04.CtxSees", spec := "ctxSees", unfollowed := true, recurses := true, apart := false, narrowed := true }
def CtxSeesUptoSaid : Prop := ctxSeesUptoRow.holds Try.pinned (OpenSpec.upto ctxSeesSpec)

/-- 'caravanlaw04.CtxTells', WHERE WHAT IT READS IS OF BULK AT MOST 1048576: true; the input reads as it did. -/
def ctxTellsUptoRow : OpenClaim := { program := "ytimcjkimehhgcaa", sum := "4efedabb0b8cca8c1a0cd63d1aaeb6f23a1ae0a1dea327b6b7d43ed10f69c1cc", func := "caravan/caravanlaw04.CtxTells", spec := "ctxTells", unfollowed := true, recurses := true, apart := false, narrowed := true }
def CtxTellsUptoSaid : Prop := ctxTellsUptoRow.holds Try.pinned (OpenSpec.upto ctxTellsSpec)

/-- 'caravanlaw04.CtxMakes', WHERE WHAT IT READS IS OF BULK AT MOST 1048576: true; the input reads as it did. -/
def ctxMakesUptoRow : OpenClaim := { program := "ytimcjkimehhgcaa", sum := "4efedabb0b8cca8c1a0cd63d1aaeb6f23a1ae0a1dea327b6b7d43ed10f69c1cc", func := "caravan/caravanlaw04.CtxMakes", spec := "ctxMakes", unfollowed := true, recurses := true, apart := false, narrowed := true }
def CtxMakesUptoSaid : Prop := ctxMakesUptoRow.holds Try.pinned (OpenSpec.upto ctxMakesSpec)

/-- 'caravanlaw04.CtxJoins', WHERE WHAT IT READS IS OF BULK AT MOST 1048576: true; the input reads as it did. -/
def ctxJoinsUptoRow : OpenClaim := { program := "ytimcjkimehhgcaa", sum := "4efedabb0b8cca8c1a0cd63d1aaeb6f23a1ae0a1dea327b6b7d43ed10f69c1cc", func := "caravan/caravanlaw04.CtxJoins", spec := "ctxJoins", unfollowed := true, recurses := true, apart := false, narrowed := true }
def CtxJoinsUptoSaid : Prop := ctxJoinsUptoRow.holds Try.pinned (OpenSpec.upto ctxJoinsSpec)

/-- 'caravanlaw04.CtxNext', WHERE WHAT IT READS IS OF BULK AT MOST 1048576: true; the input reads as it did. -/
def ctxNextUptoRow : OpenClaim := { program := "ytimcjkimehhgcaa", sum := "4efedabb0b8cca8c1a0cd63d1aaeb6f23a1ae0a1dea327b6b7d43ed10f69c1cc", func := "caravan/caravanlaw04.CtxNext", spec := "ctxNext", unfollowed := true, recurses := true, apart := false, narrowed := true }
def CtxNextUptoSaid : Prop := ctxNextUptoRow.holds Try.pinned (OpenSpec.upto ctxNextSpec)

/-- 'caravanlaw04.CtxParts', WHERE WHAT IT READS IS OF BULK AT MOST 1048576: true; the input reads as it did. -/
def ctxPartsUptoRow : OpenClaim := { program := "ytimcjkimehhgcaa", sum := "4efedabb0b8cca8c1a0cd63d1aaeb6f23a1ae0a1dea327b6b7d43ed10f69c1cc", func := "caravan/caravanlaw04.CtxParts", spec := "ctxParts", unfollowed := true, recurses := true, apart := false, narrowed := true }
def CtxPartsUptoSaid : Prop := ctxPartsUptoRow.holds Try.pinned (OpenSpec.upto ctxPartsSpec)

end Rows
end Go.Proofs.Ytimcjkimehhgcaa
