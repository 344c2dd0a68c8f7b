/- view.age, slices.Compare of two [3]int, view.later. bag.Join. -/
import Derived.Test.YtdlpnhfgjficgaaGreatMBs
import Derived.Test.YtdlpnhfgjficgaaGreatMX3
import Derived.Test.YtdlpnhfgjficgaaGreatMVv
import Derived.Deep.RegionHeld3
import Derived.BigQuiet
import Derived.Test.YtdlpnhfgjficgaaGreatJR
import Derived.Test.YtdlpnhfgjficgaaGreatMPj
import Derived.Test.YtdlpnhfgjficgaaGreatMJm
import Derived.WalkMore
namespace Go.Proofs.YtdlpnhfgjficgaaGreat
open Go.RowKit Go.Maps Go.Shelf Go.Sort

/-- How two triples stand. -/
def c3 (x0 x1 x2 y0 y1 y2 : Int) : Int := if Lib.compareInt x0 y0 = 0 then (if Lib.compareInt x1 y1 = 0 then Lib.compareInt x2 y2 else Lib.compareInt x1 y1) else Lib.compareInt x0 y0
/-- Block n holds three numbers. -/
def BA3 (n : Nat) (x y z : Int) (W : World) : Prop := W.heap[n]? = some (.cells #[.int .i64 x, .int .i64 y, .int .i64 z] 191 (0, 0))
theorem BA3.pure {n : Nat} {x y z : Int} {W W' : World} (h : BA3 n x y z W) (hp : Pure W W') : BA3 n x y z W' := (hp.block _ (lt_of_block h)).trans h
theorem BA3.cells {n : Nat} {x y z : Int} {W : World} (h : BA3 n x y z W) : W.cell? ⟨n, 0, none⟩ = some (.int .i64 x) ∧ W.cell? ⟨n, 1, none⟩ = some (.int .i64 y) ∧ W.cell? ⟨n, 2, none⟩ = some (.int .i64 z) ∧ W.frozen? ⟨n, 0, none⟩ = false ∧ W.frozen? ⟨n, 1, none⟩ = false ∧ W.frozen? ⟨n, 2, none⟩ = false := by
  unfold BA3 at h
  refine ⟨?_, ?_, ?_, ?_, ?_, ?_⟩ <;> simp [World.cell?, World.frozen?, h]
theorem BA3.other {n m : Nat} {x y z : Int} {u v t : Value} {W : World} (h : BA3 n x y z W) (hn : m ≠ n) : BA3 n x y z (((W.setCell ⟨m, 0, none⟩ u).setCell ⟨m, 1, none⟩ v).setCell ⟨m, 2, none⟩ t) := by
  exact block_setCell_other (block_setCell_other (block_setCell_other h _ hn _) _ hn _) _ hn _
theorem BA3.put {n : Nat} {x y z : Int} {W : World} (h : BA3 n x y z W) (u v t : Int) : BA3 n u v t (((W.setCell ⟨n, 0, none⟩ (.int .i64 u)).setCell ⟨n, 1, none⟩ (.int .i64 v)).setCell ⟨n, 2, none⟩ (.int .i64 t)) := by
  have := block_setCell (block_setCell (block_setCell h 0 (.int .i64 u)) 1 (.int .i64 v)) 2 (.int .i64 t)
  unfold BA3
  simpa using this

/-- A box of a peer holds three numbers. -/
def BA4 (n : Nat) (x y z : Int) (W : World) : Prop := W.cell? ⟨n, 0, none⟩ = some (.int .i64 x) ∧ W.cell? ⟨n, 1, none⟩ = some (.int .i64 y) ∧ W.cell? ⟨n, 2, none⟩ = some (.int .i64 z)
theorem BA4.put {n : Nat} {p q r : Value} {W : World} (h : W.heap[n]? = some (.cells #[p, q, r] 92 (0, 0))) (u v t : Int) : BA4 n u v t (((W.setCell ⟨n, 0, none⟩ (.int .i64 u)).setCell ⟨n, 1, none⟩ (.int .i64 v)).setCell ⟨n, 2, none⟩ (.int .i64 t)) := by
  have hh := block_setCell (block_setCell (block_setCell h 0 (.int .i64 u)) 1 (.int .i64 v)) 2 (.int .i64 t)
  have e := cell_of_block hh
  exact ⟨(e 0).trans (by simp), (e 1).trans (by simp), (e 2).trans (by simp)⟩

end Go.Proofs.YtdlpnhfgjficgaaGreat

namespace Go.Proofs.YtdlpnhfgjficgaaGreat
open Go.RowKit Go.Maps Go.Shelf Go.Sort

/-- What stands between two rounds. -/
structure JI (o lim : Nat) (wz w3 : World) (j0 j1 : Value) (cg ch : Dot → Bool) (total : List Msg) (v6 v7 : Value) (l k : List Msg) (y0 : Value) (Y : List Msg) (W : World) : Prop where
  h6 : Msgs wz v6 l
  b6 : ∀ j, v6.rb = some j → j < lim
  h7 : Msgs wz v7 k
  b7 : ∀ j, v7.rb = some j → j < lim
  B : BL o w3 y0 j0 j1 Y W
  t : Y ++ bmrg cg ch l k = total
  n : Y.length + l.length + k.length ≤ 1000
theorem alo_len (c : Dot → Bool) (m : Msg) : (alo c m).length ≤ 1 := by unfold alo; split <;> simp
section
variable {o lim : Nat} {wz w3 : World} {j0 j1 : Value} {cg ch : Dot → Bool} {total : List Msg} {v6 v7 : Value} {l k : List Msg} {x y : Msg} {y0 : Value} {Y : List Msg} {W : World}
theorem JI.left (h : JI o lim wz w3 j0 j1 cg ch total v6 v7 (x :: l) k y0 Y W) (hk : k = [] ∨ ∃ y k', k = y :: k' ∧ dlt x.1 y.1 = true) {v' y1 : Value} {W' : World} (h1 : Msgs wz v' l) (h2 : ∀ j, v'.rb = some j → v6.rb = some j) (h3 : BL o w3 y1 j0 j1 (Y ++ alo ch x) W') : JI o lim wz w3 j0 j1 cg ch total v' v7 l k y1 (Y ++ alo ch x) W' := by
  refine ⟨h1, fun j hj => h.b6 j (h2 j hj), h.h7, h.b7, h3, ?_, ?_⟩
  · rw [← h.t, List.append_assoc]
    rcases hk with rfl | ⟨y, k', rfl, hd⟩
    · rw [bmrg]
    · rw [bmrg, if_pos hd]
  · have := h.n; have := alo_len ch x
    simp only [List.length_cons, List.length_append] at *; omega
theorem JI.right (h : JI o lim wz w3 j0 j1 cg ch total v6 v7 l (y :: k) y0 Y W) (hl : l = [] ∨ ∃ x l', l = x :: l' ∧ dlt x.1 y.1 = false ∧ x.1 ≠ y.1) {v' y1 : Value} {W' : World} (h1 : Msgs wz v' k) (h2 : ∀ j, v'.rb = some j → v7.rb = some j) (h3 : BL o w3 y1 j0 j1 (Y ++ alo cg y) W') : JI o lim wz w3 j0 j1 cg ch total v6 v' l k y1 (Y ++ alo cg y) W' := by
  refine ⟨h.h6, h.b6, h1, fun j hj => h.b7 j (h2 j hj), h3, ?_, ?_⟩
  · rw [← h.t, List.append_assoc]
    rcases hl with rfl | ⟨x, l', rfl, hd, hn⟩
    · rw [bmrg]
    · rw [bmrg, if_neg (by simp [hd]), if_pos hn]
  · have := h.n; have := alo_len cg y
    simp only [List.length_cons, List.length_append] at *; omega
theorem JI.end_ (h : JI o lim wz w3 j0 j1 cg ch total v6 v7 [] [] y0 Y W) : Y = total := by rw [← h.t, bmrg]; simp
end
end Go.Proofs.YtdlpnhfgjficgaaGreat

