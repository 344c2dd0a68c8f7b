/- dot.Find. ctx.Upto. -/
import Derived.Test.YtdlpnhfgjficgaaGreatMPa
import Derived.Shelf.Spec.SlicesGrow
namespace Go.Proofs.YtdlpnhfgjficgaaGreat
open Go.RowKit Go.Maps Go.Shelf Go.Sort

/-- Where a name is, or would be. -/
structure FAt (l : List Dot) (d : Dot) (k : Nat) : Prop where
  le : k ≤ l.length
  low : ∀ j, j < k → DL (l.getD j (0, 0)) d
  high : ∀ j, k ≤ j → j < l.length → ¬ DL (l.getD j (0, 0)) d
theorem rise_get {l : List Dot} (h : Rise l) {i j : Nat} (hi : i < j) (hj : j < l.length) : DL (l.getD i (0, 0)) (l.getD j (0, 0)) := by
  have := List.pairwise_iff_getElem.1 h i j (by omega) hj hi
  have hi' : i < l.length := by omega
  simpa [List.getD, hi', hj] using this
theorem FAt.none {l : List Dot} {d : Dot} {k : Nat} (h : FAt l d k) (hk : ¬ k < l.length) : decide (d ∈ l) = false := by
  rw [decide_eq_false]
  intro hm
  obtain ⟨j, hj, rfl⟩ := List.getElem_of_mem hm
  have ej : l.getD j (0, 0) = l[j] := by simp [List.getD, hj]
  have := h.low j (by omega)
  rw [ej] at this
  exact DL.irrefl _ this
/-- Between lo and hi. -/
structure FI (l : List Dot) (d : Dot) (lo hi : Nat) : Prop where
  le : lo ≤ hi
  len : hi ≤ l.length
  low : ∀ j, j < lo → DL (l.getD j (0, 0)) d
  high : ∀ j, hi ≤ j → j < l.length → ¬ DL (l.getD j (0, 0)) d
theorem FI.up {l : List Dot} {d : Dot} {lo hi m : Nat} (h : FI l d lo hi) (hr : Rise l) (hm : m < hi) (e : dlt (l.getD m (0, 0)) d = true) : FI l d (m + 1) hi :=
  ⟨by omega, h.len, fun j hj => by
    rw [dlt_iff] at e
    rcases Nat.lt_or_ge j m with h1 | h1
    · exact (rise_get hr h1 (by have := h.len; omega)).trans e
    · obtain rfl : j = m := by omega
      exact e, h.high⟩
theorem FI.down {l : List Dot} {d : Dot} {lo hi m : Nat} (h : FI l d lo hi) (hr : Rise l) (hl : lo ≤ m) (hm : m < hi) (e : dlt (l.getD m (0, 0)) d = false) : FI l d lo m :=
  ⟨hl, by have := h.len; omega, h.low, fun j hj hjl hd => by
    rw [dlt_false] at e
    rcases Nat.lt_or_ge m j with h1 | h1
    · exact e ((rise_get hr h1 hjl).trans hd)
    · obtain rfl : j = m := by omega
      exact e hd⟩
end Go.Proofs.YtdlpnhfgjficgaaGreat

namespace Go.Proofs.YtdlpnhfgjficgaaGreat
open Go.RowKit Go.Maps Go.Shelf Go.Sort

theorem FAt.base {B : List Dot} {node : Int} {k : Nat} (h : FAt B (node, 0) k) (hr : Rise B) (h0 : ∀ d ∈ B, 0 ≤ d.2) : cbase B node = if k < B.length ∧ (B.getD k (0, 0)).1 = node then (B.getD k (0, 0)).2 else 0 := by
  have hlow : ∀ d ∈ B.take k, d.1 ≠ node := by
    intro d hd e
    rw [List.mem_take_iff_getElem] at hd
    obtain ⟨j, hj, rfl⟩ := hd
    have h1 := h.low j (by omega)
    have ej : B.getD j (0, 0) = B[j] := by simp [List.getD, show j < B.length by omega]
    rw [ej] at h1
    have h2 := h0 _ (List.getElem_mem (show j < B.length by omega))
    unfold DL at h1
    dsimp only at h1
    omega
  split
  · rename_i hh
    exact cbase_hit hh.1 hlow hh.2
  · rename_i hh
    refine cbase_none (fun d hd e => ?_)
    obtain ⟨j, hj, rfl⟩ := List.getElem_of_mem hd
    have ej : B.getD j (0, 0) = B[j] := by simp [List.getD, hj]
    rcases Nat.lt_trichotomy j k with h1 | h1 | h1
    · exact hlow _ (by rw [List.mem_take_iff_getElem]; exact ⟨j, by omega, rfl⟩) e
    · subst h1
      exact hh ⟨hj, by rw [ej]; exact e⟩
    · have h2 := rise_get hr h1 hj
      have h3 := h.high k (Nat.le_refl _) (by omega)
      have h4 : (B.getD k (0, 0)).1 ≠ node := fun e => hh ⟨by omega, e⟩
      rw [ej] at h2
      unfold DL at h2 h3
      dsimp only at h3
      omega

def cv (vb vc : Value) : Value := .agg #[vb, vc]
end Go.Proofs.YtdlpnhfgjficgaaGreat

