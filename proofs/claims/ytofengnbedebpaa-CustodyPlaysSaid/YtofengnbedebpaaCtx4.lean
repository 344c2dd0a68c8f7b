/- ref04: Bytes, Has. -/
import Derived.Test.YtofengnbedebpaaCtx3
namespace Go.Proofs.Ytofengnbedebpaa
open Go.RowKit Go.Maps

def ctxB (B C : List Dot) : List UInt8 := rowB B ++ rowB C
theorem rowB_len (l : List Dot) (h : ∀ d ∈ l, Small d) (hl : l.length ≤ 100000) : (rowB l).length ≤ 2000010 := by
  have h1 := flatB_len l h
  have h2 := num_len l.length (by omega)
  unfold rowB; rw [List.length_append]; omega

set_option maxRecDepth 8000 in
set_option maxHeartbeats 2000000 in
theorem rcbytes_any (vb vc : Value) (B C : List Dot) (w : World) (hB : Dots w vb B) (hC : Dots w vc C) (sB : ∀ d ∈ B, Small d) (sC : ∀ d ∈ C, Small d) (lB : B.length ≤ 100000) (lC : C.length ≤ 100000) :
    Calls Try.prog 28 #[.agg #[vb, vc]] w fun r w' => r = .returned (.string (bs (ctxB B C))) ∧ Pure w w' := by
  obtain ⟨a, cap, rfl⟩ := hB.shape
  obtain ⟨a', cap', rfl⟩ := hC.shape
  have hx := hid (fun W (hW : Pure w W) => rrow_any _ B W (show Dots W (.slice a B.length cap) B from Row.pure hB hW) sB (by omega))
  have hy := hid (fun W (hW : Pure w W) => rrow_any _ C W (show Dots W (.slice a' C.length cap') C from Row.pure hC hW) sC (by omega))
  have l1 := rowB_len B sB lB
  have l2 := rowB_len C sC lC
  have hns : ¬ 9223372036854775807 < (bs (rowB B)).size + (bs (rowB C)).size := by rw [bs_size, bs_size]; omega
  have happ := hid (bs_append (rowB B) (rowB C))
  unfold ctxB
  clear hB hC l1 l2 sB sC lB lC
  generalize bs (rowB B) = X at *
  generalize bs (rowB C) = Y at *
  have hst := hid (show (w.alloc (.cells #[.slice a B.length cap, .slice a' C.length cap'] 29)).drew.cell? ⟨w.heap.size, 0, none⟩ = some (.slice a B.length cap) ∧ (w.alloc (.cells #[.slice a B.length cap, .slice a' C.length cap'] 29)).drew.cell? ⟨w.heap.size, 1, none⟩ = some (.slice a' C.length cap') ∧ Pure w (w.alloc (.cells #[.slice a B.length cap, .slice a' C.length cap'] 29)).drew from ⟨by simp, by simp, ((Below.refl _ _).alloc (Nat.le_refl _) _).drew⟩)
  have hkeep : Hid (∀ W W' : World, Pure W W' → (W.cell? ⟨w.heap.size, 0, none⟩ = some (.slice a B.length cap) ∧ W.cell? ⟨w.heap.size, 1, none⟩ = some (.slice a' C.length cap') ∧ Pure w W) → (W'.cell? ⟨w.heap.size, 0, none⟩ = some (.slice a B.length cap) ∧ W'.cell? ⟨w.heap.size, 1, none⟩ = some (.slice a' C.length cap') ∧ Pure w W')) := fun W W' hp ⟨a, b, c⟩ =>
    ⟨(hp.cell (World.block_lt_of_cell? W _ a)).trans a, (hp.cell (World.block_lt_of_cell? W _ b)).trans b, c.then_ hp⟩
  have hS : Hid (∀ W : World, (W.cell? ⟨w.heap.size, 0, none⟩ = some (.slice a B.length cap) ∧ W.cell? ⟨w.heap.size, 1, none⟩ = some (.slice a' C.length cap') ∧ Pure w W) → Pure w W) := fun W h => h.2.2
  go_enter Try.func28, Try.ntmps28
  go_wp2_with fail
  go_region_held3 (fun W => W.cell? ⟨w.heap.size, 0, none⟩ = some (.slice a B.length cap) ∧ W.cell? ⟨w.heap.size, 1, none⟩ = some (.slice a' C.length cap') ∧ Pure w W)
    (first | with_reducible exact hst.out | with_reducible exact hkeep.out _ _ (by assumption) (by assumption))
    (first
      | (go_at_call 52; with_reducible refine (hx.out _ (hS.out _ (by assumption))).mono ?_; rintro e w1 ⟨rfl, hp1⟩)
      | (go_at_call 52; with_reducible refine (hy.out _ (hS.out _ (by assumption))).mono ?_; rintro e w1 ⟨rfl, hp1⟩))
  have hx' := hid (show w1.cell? ⟨w.heap.size, 0, none⟩ = some (.slice a B.length cap) ∧ w1.cell? ⟨w.heap.size, 1, none⟩ = some (.slice a' C.length cap') ∧ Pure w w1 from by assumption)
  go_wp2
  go_ret
  exact ⟨congrArg (fun z => Ending.returned (.string z)) happ.out, hx'.out.2.2⟩
end Go.Proofs.Ytofengnbedebpaa
