/- ctx.Read. bag.Read. -/
import Derived.Test.YtdlpnhfgjficgaaGreatMRg
import Derived.Test.YtdlpnhfgjficgaaGreatMBs
import Derived.Test.YtdlpnhfgjficgaaGreatMVc
namespace Go.Proofs.YtdlpnhfgjficgaaGreat
open Go.RowKit Go.Maps Go.Shelf Go.Sort

def RdCtxP (T : TypeId) (b : Nat) (X : List Dot × List Dot) (s : RS) (w : World) (e : Ending) (w' : World) : Prop := ∃ v0 v1, e = .returned (.agg #[v0, v1]) ∧ CR v0 v1 X w' ∧ (∀ k, v0.rb = some k → w.heap.size ≤ k) ∧ (∀ k, v1.rb = some k → w.heap.size ≤ k) ∧ RdAt T b s w' ∧ Kept (fun k => k = b) w w'
theorem Dots.kept {S : Nat → Prop} {w w' : World} {v : Value} {l : List Dot} (h : Dots w v l) (hk : Kept S w w') (hS : ∀ k, v.rb = some k → ¬ S k) : Dots w' v l := Row.kept h hk hS
theorem kset (W : World) (n i : Nat) (v : Value) : Kept (fun k => k = n) W (W.setCell ⟨n, i, none⟩ v) := Kept.setCell (S := fun k => k = n) (Kept.refl _ _) (p := ⟨n, i, none⟩) (fun _ => rfl) v

end Go.Proofs.YtdlpnhfgjficgaaGreat

namespace Go.Proofs.YtdlpnhfgjficgaaGreat
open Go.RowKit Go.Maps Go.Shelf Go.Sort

def RdBagP (T : TypeId) (b : Nat) (g : Bag) (s : RS) (w : World) (e : Ending) (w' : World) : Prop := ∃ v0 v1 v2, e = .returned (.agg #[v0, v1, v2]) ∧ BR3 v0 v1 v2 g w' ∧ BFr w.heap.size v0 v1 v2 ∧ RdAt T b s w' ∧ Kept (fun k => k = b) w w'
/-- A bag that is being read: its box nb, the result's box nr, the reader's b. -/
structure RbW (T : TypeId) (b nr nb : Nat) (X : List Dot × List Dot) (x1 x2 v : Value) (acc : List Msg) (s : RS) (w W : World) : Prop where
  r : RdK T b s w W
  box : W.heap[nb]? = some (.cells #[v, x1, x2] 34 (0, 0))
  res : W.heap[nr]? = some (.cells #[.slice none 0 0, .slice none 0 0, .slice none 0 0] 34 (0, 0))
  own : W.ownsRow (nb + 1) 43 5 v acc.length (mvs acc)
  ctx : CR x1 x2 X W
  wb : b < w.heap.size
  wr : w.heap.size = nr
  rn : nr < nb
  f1 : ∀ k, x1.rb = some k → nr < k ∧ k < nb
  f2 : ∀ k, x2.rb = some k → nr < k ∧ k < nb
section
variable {T : TypeId} {b nr nb : Nat} {X : List Dot × List Dot} {x1 x2 v : Value} {acc : List Msg} {s : RS} {w W W' : World}
theorem RbW.lt (h : RbW T b nr nb X x1 x2 v acc s w W) : nb < W.heap.size := lt_of_block h.box
theorem RbW.next (h : RbW T b nr nb X x1 x2 v acc s w W) {s' : RS} (hr : RdAt T b s' W') (hk : Kept (fun k => k = b) W W') : RbW T b nr nb X x1 x2 v acc s' w W' :=
  have hb := h.wb; have hw := h.wr; have hn := h.rn
  ⟨h.r.next hr hk, block_kept h.box hk (by omega), block_kept h.res hk (by omega), own_kept h.own hk (fun k hk e => by have := (h.own.lt k hk).1; omega),
    ⟨Dots.kept h.ctx.1 hk (fun k hk e => by have := (h.f1 k hk).1; omega), Dots.kept h.ctx.2 hk (fun k hk e => by have := (h.f2 k hk).1; omega)⟩, hb, hw, hn, h.f1, h.f2⟩
theorem RbW.pure (h : RbW T b nr nb X x1 x2 v acc s w W) (hp : Pure W W') : RbW T b nr nb X x1 x2 v acc s w W' := h.next (h.r.r.pure hp) hp.kept
theorem RbW.alloc (h : RbW T b nr nb X x1 x2 v acc s w W) (o : Obj) : RbW T b nr nb X x1 x2 v acc s w (W.alloc o) := h.pure ((Below.refl _ _).alloc (Nat.le_refl _) o)
theorem RbW.keep {S : Nat → Prop} (h : RbW T b nr nb X x1 x2 v acc s w W) (hk : Kept S W W') (hS : ∀ k, k ≤ nb → ¬ S k) (ho : ∀ k, v.ownBlock = some k → ¬ S k) : RbW T b nr nb X x1 x2 v acc s w W' :=
  have hb := h.wb; have hw := h.wr; have hn := h.rn
  ⟨⟨h.r.r.kept hk (hS b (by omega)), ⟨hk.os.trans h.r.k.os, hk.tape.trans h.r.k.tape, hk.output.trans h.r.k.output, Nat.le_trans h.r.k.size hk.size, fun k hk' he => (hk.block k (Nat.lt_of_lt_of_le hk' h.r.k.size) (hS k (by omega))).trans (h.r.k.block k hk' he)⟩⟩,
    (hk.block nb h.lt (hS nb (Nat.le_refl _))).trans h.box, (hk.block nr (lt_of_block h.res) (hS nr (by omega))).trans h.res, own_kept h.own hk ho,
    ⟨Dots.kept h.ctx.1 hk (fun k hk' => hS k (by have := (h.f1 k hk').2; omega)), Dots.kept h.ctx.2 hk (fun k hk' => hS k (by have := (h.f2 k hk').2; omega))⟩, hb, hw, hn, h.f1, h.f2⟩
theorem RbW.set (h : RbW T b nr nb X x1 x2 v acc s w W) {n i : Nat} (hn : nb < n) (ho : ∀ k, v.ownBlock = some k → k ≠ n) (u : Value) : RbW T b nr nb X x1 x2 v acc s w (W.setCell ⟨n, i, none⟩ u) :=
  h.keep (kset W n i u) (fun k hk e => by omega) ho
/-- Its row grows, and is laid into its box. -/
theorem RbW.grow (h : RbW T b nr nb X x1 x2 v acc s w W) {v' : Value} {acc' : List Msg} (hg : W.grownBy W' v.ownBlock) (hv : W'.ownsRow (nb + 1) 43 5 v' acc'.length (mvs acc')) : RbW T b nr nb X x1 x2 v' acc' s w (W'.setCell ⟨nb, 0, none⟩ v') := by
  have hb := h.wb
  have hw := h.wr
  have hn := h.rn
  have hk : Kept (fun k => nb < k) W W' := Kept.grown (S := fun k => nb < k) (Kept.refl _ _) hg (fun k hk _ => by have := (h.own.lt k hk).1; omega)
  have h2 : Kept (fun k => nb ≤ k) W (W'.setCell ⟨nb, 0, none⟩ v') := (hk.mono (fun k _ e => Nat.le_of_lt e)).setCell (p := ⟨nb, 0, none⟩) (fun _ => Nat.le_refl _) v'
  have hbox := (hk.block nb h.lt (by omega)).trans h.box
  refine ⟨⟨h.r.r.kept h2 (by omega), ⟨h2.os.trans h.r.k.os, h2.tape.trans h.r.k.tape, h2.output.trans h.r.k.output, Nat.le_trans h.r.k.size h2.size, fun k hk' he => (h2.block k (Nat.lt_of_lt_of_le hk' h.r.k.size) (by omega)).trans (h.r.k.block k hk' he)⟩⟩, ?_, (h2.block nr (lt_of_block h.res) (by omega)).trans h.res, own_kept hv (kset W' nb 0 v') (fun k hk e => by have := (hv.lt k hk).1; omega), ⟨Dots.kept h.ctx.1 h2 (fun k hk' => by have := (h.f1 k hk').2; omega), Dots.kept h.ctx.2 h2 (fun k hk' => by have := (h.f2 k hk').2; omega)⟩, hb, hw, hn, h.f1, h.f2⟩
  have := block_setCell hbox 0 v'
  simpa using this
theorem RbW.grownCells (h : RbW T b nr nb X x1 x2 v acc s w W) (hg : W.grownBy W' v.ownBlock) : W'.cell? ⟨nb, 0, none⟩ = some v ∧ W'.frozen? ⟨nb, 0, none⟩ = false := by
  have e := (hg.block nb h.lt (fun e => by have := (h.own.lt nb e.symm).1; omega)).trans h.box
  exact ⟨cell_of_block e 0, free_of_block e 0⟩
end
/-- The bag is laid into the result's box. -/
theorem RbW.done {T : TypeId} {b nr nb : Nat} {X : List Dot × List Dot} {x1 x2 v : Value} {acc : List Msg} {s : RS} {w W : World} (h : RbW T b nr nb X x1 x2 v acc s w W) {u0 u1 u2 : Value} :
    RdK T b s w (((W.setCell ⟨nr, 0, none⟩ u0).setCell ⟨nr, 1, none⟩ u1).setCell ⟨nr, 2, none⟩ u2) ∧ (((W.setCell ⟨nr, 0, none⟩ u0).setCell ⟨nr, 1, none⟩ u1).setCell ⟨nr, 2, none⟩ u2).heap[nr]? = some (.cells #[u0, u1, u2] 34 (0, 0)) ∧ BR3 v x1 x2 (acc, X) (((W.setCell ⟨nr, 0, none⟩ u0).setCell ⟨nr, 1, none⟩ u1).setCell ⟨nr, 2, none⟩ u2) ∧ BFr w.heap.size v x1 x2 := by
  have hb := h.wb
  have hw := h.wr
  have hn := h.rn
  have hk := ((kset W nr 0 u0).trans (kset _ nr 1 u1)).trans (kset _ nr 2 u2)
  refine ⟨((h.r.set (by omega) (by omega) _).set (by omega) (by omega) _).set (by omega) (by omega) _, ?_, ⟨Row.kept (Row.of_own h.own) hk (fun k hk e => by have := (h.own.lt k (rb_own hk)).1; omega), Dots.kept h.ctx.1 hk (fun k hk e => by have := (h.f1 k hk).1; omega), Dots.kept h.ctx.2 hk (fun k hk e => by have := (h.f2 k hk).1; omega)⟩, fun k hk => ?_, fun k hk => ?_, fun k hk => ?_⟩
  · have := block_setCell (block_setCell (block_setCell h.res 0 u0) 1 u1) 2 u2
    simpa using this
  · have := (h.own.lt k (rb_own hk)).1; omega
  · have := (h.f1 k hk).1; omega
  · have := (h.f2 k hk).1; omega
theorem RbW.cells {T : TypeId} {b nr nb : Nat} {X : List Dot × List Dot} {x1 x2 v : Value} {acc : List Msg} {s : RS} {w W : World} (h : RbW T b nr nb X x1 x2 v acc s w W) :
    W.cell? ⟨nb, 0, none⟩ = some v ∧ W.cell? ⟨nb, 1, none⟩ = some x1 ∧ W.cell? ⟨nb, 2, none⟩ = some x2 ∧ W.frozen? ⟨nb, 0, none⟩ = false ∧ W.cell? ⟨nr, 0, none⟩ = some (.slice none 0 0) ∧ W.cell? ⟨nr, 1, none⟩ = some (.slice none 0 0) ∧ W.cell? ⟨nr, 2, none⟩ = some (.slice none 0 0) ∧ W.frozen? ⟨nr, 0, none⟩ = false ∧ W.frozen? ⟨nr, 1, none⟩ = false ∧ W.frozen? ⟨nr, 2, none⟩ = false :=
  ⟨cell_of_block h.box 0, cell_of_block h.box 1, cell_of_block h.box 2, free_of_block h.box 0, cell_of_block h.res 0, cell_of_block h.res 1, cell_of_block h.res 2, free_of_block h.res 0, free_of_block h.res 1, free_of_block h.res 2⟩
/-- A message's box while it is read. -/
def MB (n : Nat) (x y : Int) (q p : List UInt8) (c : Int) (W : World) : Prop := W.heap[n]? = some (.cells #[.int .i64 x, .int .i64 y, .string (bs q), .string (bs p), .int .i64 c] 43 (0, 0))
theorem MB.cells {n : Nat} {x y : Int} {q p : List UInt8} {c : Int} {W : World} (h : MB n x y q p c W) : W.cell? ⟨n, 0, none⟩ = some (.int .i64 x) ∧ W.cell? ⟨n, 1, none⟩ = some (.int .i64 y) ∧ W.cell? ⟨n, 2, none⟩ = some (.string (bs q)) ∧ W.cell? ⟨n, 3, none⟩ = some (.string (bs p)) ∧ W.cell? ⟨n, 4, none⟩ = some (.int .i64 c) ∧ W.frozen? ⟨n, 2, none⟩ = false ∧ W.frozen? ⟨n, 3, none⟩ = false ∧ W.frozen? ⟨n, 4, none⟩ = false :=
  ⟨cell_of_block h 0, cell_of_block h 1, cell_of_block h 2, cell_of_block h 3, cell_of_block h 4, free_of_block h 2, free_of_block h 3, free_of_block h 4⟩
theorem MB.set2 {n : Nat} {x y : Int} {q p : List UInt8} {c : Int} {W : World} (h : MB n x y q p c W) (q' : List UInt8) : MB n x y q' p c (W.setCell ⟨n, 2, none⟩ (.string (bs q'))) := by
  have := block_setCell h 2 (.string (bs q')); simpa [MB] using this
theorem MB.set3 {n : Nat} {x y : Int} {q p : List UInt8} {c : Int} {W : World} (h : MB n x y q p c W) (p' : List UInt8) : MB n x y q p' c (W.setCell ⟨n, 3, none⟩ (.string (bs p'))) := by
  have := block_setCell h 3 (.string (bs p')); simpa [MB] using this
theorem MB.set4 {n : Nat} {x y : Int} {q p : List UInt8} {c : Int} {W : World} (h : MB n x y q p c W) (c' : Int) : MB n x y q p c' (W.setCell ⟨n, 4, none⟩ (.int .i64 c')) := by
  have := block_setCell h 4 (.int .i64 c'); simpa [MB] using this

end Go.Proofs.YtdlpnhfgjficgaaGreat

