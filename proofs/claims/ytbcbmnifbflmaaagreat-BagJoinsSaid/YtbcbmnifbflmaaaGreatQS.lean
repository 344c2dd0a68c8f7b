/- ref01's Same: two lists of numbers. -/
import Derived.Test.YtbcbmnifbflmaaaGreatHas
namespace Go.Proofs.YtbcbmnifbflmaaaGreat
open Go.RowKit Go.Maps



/-- ref01's Same. -/
theorem same_short {l k : List Int} (h : l.length ≠ k.length) : decide (l = k) = false := by simp; exact fun e => h (by rw [e])
theorem same_take {l k : List Int} {i : Nat} (h : l.take i = k.take i) (h1 : i < l.length) (h2 : i < k.length) (e : l.getD i 0 = k.getD i 0) : l.take (i + 1) = k.take (i + 1) := by
  rw [take_succ_get l i h1, take_succ_get k i h2, h, e]
theorem same_full {l k : List Int} (h : l.length = k.length) (e : l.take l.length = k.take l.length) : decide (l = k) = true := by rw [List.take_length, h, List.take_length] at e; simp [e]
theorem same_not {l k : List Int} {i : Nat} (e : ¬ l.getD i 0 = k.getD i 0) : decide (l = k) = false := by simp; exact fun h => e (by rw [h])

end Go.Proofs.YtbcbmnifbflmaaaGreat
