/- ref01's Same: two lists of numbers. ref04: Upto, Next, Part, Covers. -/
import Derived.Test.YtdlpnhfgjficgaaGreatMJa
import Derived.Test.YtdlpnhfgjficgaaGreatMCm
namespace Go.Proofs.YtdlpnhfgjficgaaGreat
open Go.RowKit Go.Maps



end Go.Proofs.YtdlpnhfgjficgaaGreat

namespace Go.Proofs.YtdlpnhfgjficgaaGreat
open Go.RowKit Go.Maps

/-- A context that was handed back: its rows, in memory of the call's own. -/
def CtxF (w : World) (B C : List Dot) (e : Ending) (w' : World) : Prop :=
  ∃ v0 v1, e = .returned (.agg #[v0, v1]) ∧ Dots w' v0 B ∧ Dots w' v1 C ∧ Pure w w' ∧ (∀ k, v0.rb = some k → w.heap.size ≤ k) ∧ (∀ k, v1.rb = some k → w.heap.size ≤ k)

/-- A context is laid into the variable of the result, and handed back. -/
theorem ctx_ret {w w4 : World} {s : Nat} {x y v0 v1 : Value} {B C : List Dot} (hres : w4.heap[s]? = some (.cells #[x, y] 32 (0, 0))) (hs : w.heap.size ≤ s) (hp : Pure w w4) (hd0 : Dots w4 v0 B) (hd1 : Dots w4 v1 C)
    (h0 : ∀ k, v0.rb = some k → w.heap.size ≤ k ∧ k ≠ s) (h1 : ∀ k, v1.rb = some k → w.heap.size ≤ k ∧ k ≠ s) :
    ((w4.setCell ⟨s, 0, none⟩ v0).setCell ⟨s, 1, none⟩ v1).cell? ⟨s, 0, none⟩ = some v0 ∧ ((w4.setCell ⟨s, 0, none⟩ v0).setCell ⟨s, 1, none⟩ v1).cell? ⟨s, 1, none⟩ = some v1 ∧ CtxF w B C (.returned (.agg #[v0, v1])) ((w4.setCell ⟨s, 0, none⟩ v0).setCell ⟨s, 1, none⟩ v1) := by
  have hb := block_setCell (block_setCell hres 0 v0) 1 v1
  have hkf : Kept (fun k => k = s) w4 ((w4.setCell ⟨s, 0, none⟩ v0).setCell ⟨s, 1, none⟩ v1) := (kept_set w4 _ 0 _).trans (kept_set _ _ 1 _)
  have q : Kept (fun k => w.heap.size ≤ k) w ((w4.setCell ⟨s, 0, none⟩ v0).setCell ⟨s, 1, none⟩ v1) := hp.kept.trans (hkf.mono (fun k _ e => by omega))
  refine ⟨by rw [cell_of_block hb 0]; simp, by rw [cell_of_block hb 1]; simp, _, _, rfl, Row.kept hd0 hkf (fun k hk e => (h0 k hk).2 e), Row.kept hd1 hkf (fun k hk e => (h1 k hk).2 e), q.below (Nat.le_refl _) (fun k hk e => by omega), fun k hk => (h0 k hk).1, fun k hk => (h1 k hk).1⟩

/-- What lies in the variable of the result, while nothing was stored there. -/
def RsC (s : Nat) (W : World) : Prop := W.heap[s]? = some (.cells #[.slice none 0 0, .slice none 0 0] 32 (0, 0))
theorem RsC.go {s : Nat} {W W' : World} (h : Hid (RsC s W)) (hp : Pure W W') : Hid (RsC s W') ∧ W'.cell? ⟨s, 0, none⟩ = some (.slice none 0 0) ∧ W'.cell? ⟨s, 1, none⟩ = some (.slice none 0 0) ∧ W'.frozen? ⟨s, 0, none⟩ = false ∧ W'.frozen? ⟨s, 1, none⟩ = false := by
  have e : RsC s W' := (hp.block _ (lt_of_block h.out)).trans h.out
  exact ⟨e, cell_of_block e 0, cell_of_block e 1, free_of_block e 0, free_of_block e 1⟩

def ccov (aB aC bB bC : List Dot) : Bool := decide ((cjoin aB aC bB bC).1 = aB) && decide ((cjoin aB aC bB bC).2 = aC)
/-- Two contexts in boxes. -/
theorem box2 (w : World) (a0 a1 b0 b1 : Value) : ∃ wz, wz = (w.alloc (.cells #[a0, a1] 32)).alloc (.cells #[b0, b1] 32) ∧ Hid (Pure w wz) ∧ Hid (∀ W, Pure wz W → (W.cell? ⟨w.heap.size, 0, none⟩ = some a0 ∧ W.cell? ⟨w.heap.size, 1, none⟩ = some a1 ∧ W.cell? ⟨w.heap.size + 1, 0, none⟩ = some b0 ∧ W.cell? ⟨w.heap.size + 1, 1, none⟩ = some b1 ∧ Pure wz W)) := by
  refine ⟨_, rfl, ((Below.refl _ _).alloc (Nat.le_refl _) _).alloc (by simp) _, fun W hW => ?_⟩
  have e0 := (hW.block _ (by simp; omega)).trans (block_alloc_old (block_alloc_new w (.cells #[a0, a1] 32)) (.cells #[b0, b1] 32))
  have h1 : ((w.alloc (.cells #[a0, a1] 32)).alloc (.cells #[b0, b1] 32)).heap[w.heap.size + 1]? = some (.cells #[b0, b1] 32 (0, 0)) := by
    have := block_alloc_new (w.alloc (.cells #[a0, a1] 32)) (.cells #[b0, b1] 32)
    simpa using this
  have e1 := (hW.block _ (by simp)).trans h1
  exact ⟨cell_of_block e0 0, cell_of_block e0 1, cell_of_block e1 0, cell_of_block e1 1, hW⟩
end Go.Proofs.YtdlpnhfgjficgaaGreat

