/- law18's one: a bag by a number. ref04: Upto, Next, Part, Covers. ctx.Join's put. ctx.Join. ctx: Add. -/
import Derived.Test.YtdlpnhfgjficgaaGreatPut
import Derived.Test.YtdlpnhfgjficgaaGreatMJa
import Derived.Test.YtdlpnhfgjficgaaGreatMCm
import Derived.Test.YtdlpnhfgjficgaaGreatMBs
import Derived.Test.YtdlpnhfgjficgaaGreatMPj
import Derived.Test.YtdlpnhfgjficgaaGreatMPa
import Derived.Shelf.Spec.SlicesGrow
import Derived.Test.YtdlpnhfgjficgaaGreatShelf
import Derived.Sort.OwnSortedInts
import Derived.Shelf.SlIterI.Nil
import Derived.Test.YtdlpnhfgjficgaaGreatMDot
namespace Go.Proofs.YtdlpnhfgjficgaaGreat
open Go.RowKit Go.Maps

theorem agg3 {a b c x y z : Value} (h : Value.agg #[a, b, c] = .agg #[x, y, z]) : a = x ∧ b = y ∧ c = z := by simpa using h
theorem set3 {w : World} {b : Nat} {t0 t1 t2 : Value} {T : TypeId} (hb : w.heap[b]? = some (.cells #[t0, t1, t2] T (0, 0))) (v0 v1 v2 : Value) :
    (((w.setCell ⟨b, 0, none⟩ v0).setCell ⟨b, 1, none⟩ v1).setCell ⟨b, 2, none⟩ v2).heap[b]? = some (.cells #[v0, v1, v2] T (0, 0)) := by
  have := block_setCell (block_setCell (block_setCell hb 0 v0) 1 v1) 2 v2
  simpa using this
theorem kept3 (w : World) (b : Nat) (v0 v1 v2 : Value) : Kept (fun k => k = b) w (((w.setCell ⟨b, 0, none⟩ v0).setCell ⟨b, 1, none⟩ v1).setCell ⟨b, 2, none⟩ v2) :=
  have h1 : Kept (fun k => k = b) w (w.setCell ⟨b, 0, none⟩ v0) := Kept.setCell (S := fun k => k = b) (Kept.refl _ w) (p := ⟨b, 0, none⟩) (fun _ => rfl) v0
  have h2 : Kept (fun k => k = b) w ((w.setCell ⟨b, 0, none⟩ v0).setCell ⟨b, 1, none⟩ v1) := Kept.setCell (S := fun k => k = b) h1 (p := ⟨b, 1, none⟩) (fun _ => rfl) v1
  Kept.setCell (S := fun k => k = b) h2 (p := ⟨b, 2, none⟩) (fun _ => rfl) v2
end Go.Proofs.YtdlpnhfgjficgaaGreat

namespace Go.Proofs.YtdlpnhfgjficgaaGreat
open Go.RowKit Go.Maps

/-- A context that was handed back: its rows, in memory of the call's own. -/
def CtxF (w : World) (B C : List Dot) (e : Ending) (w' : World) : Prop :=
  ∃ v0 v1, e = .returned (.agg #[v0, v1]) ∧ Dots w' v0 B ∧ Dots w' v1 C ∧ Pure w w' ∧ (∀ k, v0.rb = some k → w.heap.size ≤ k) ∧ (∀ k, v1.rb = some k → w.heap.size ≤ k)

/-- What lies in the variable of the result, while nothing was stored there. -/
def RsC (s : Nat) (W : World) : Prop := W.heap[s]? = some (.cells #[.slice none 0 0, .slice none 0 0] 32 (0, 0))
theorem RsC.go {s : Nat} {W W' : World} (h : Hid (RsC s W)) (hp : Pure W W') : Hid (RsC s W') ∧ W'.cell? ⟨s, 0, none⟩ = some (.slice none 0 0) ∧ W'.cell? ⟨s, 1, none⟩ = some (.slice none 0 0) ∧ W'.frozen? ⟨s, 0, none⟩ = false ∧ W'.frozen? ⟨s, 1, none⟩ = false := by
  have e : RsC s W' := (hp.block _ (lt_of_block h.out)).trans h.out
  exact ⟨e, cell_of_block e 0, cell_of_block e 1, free_of_block e 0, free_of_block e 1⟩

end Go.Proofs.YtdlpnhfgjficgaaGreat

namespace Go.Proofs.YtdlpnhfgjficgaaGreat
open Go.RowKit Go.Maps Go.Shelf Go.Sort

/-- What lies in memory when put is called: both contexts, both clouds together, and the outcome (block o). -/
structure PutW (na nb nq o : Nat) (va0 va1 vb0 vb1 vq : Value) (aB bB cl : List Dot) (w6 : World) : Prop where
  a : w6.heap[na]? = some (.cells #[va0, va1] 32 (0, 0))
  b : w6.heap[nb]? = some (.cells #[vb0, vb1] 32 (0, 0))
  q : w6.heap[nq]? = some (.cells #[vq] 30 (0, 0))
  ao : na ≠ o
  bo : nb ≠ o
  qo : nq ≠ o
  o6 : o < w6.heap.size
  ra : Dots w6 va0 aB
  rb : Dots w6 vb0 bB
  rq : Dots w6 vq cl
  xa : ∀ k, va0.rb = some k → k ≠ o
  xb : ∀ k, vb0.rb = some k → k ≠ o
  xq : ∀ k, vq.rb = some k → k ≠ o
  sa : Rise aB
  sb : Rise bB
  ba : ∀ d ∈ aB, 0 ≤ d.2 ∧ d.2 ≤ 1152921504606846976
  bb : ∀ d ∈ bB, 0 ≤ d.2 ∧ d.2 ≤ 1152921504606846976
  bq : ∀ d ∈ cl, d.2 ≤ 1152921504606846976
  la : aB.length ≤ 1000
  lb : bB.length ≤ 1000
  lq : cl.length ≤ 1000
def PutS (na nb nq : Nat) (va0 va1 vb0 vb1 vq : Value) (W0 W : World) : Prop :=
  W.cell? ⟨na, 0, none⟩ = some va0 ∧ W.cell? ⟨na, 1, none⟩ = some va1 ∧ W.cell? ⟨nb, 0, none⟩ = some vb0 ∧ W.cell? ⟨nb, 1, none⟩ = some vb1 ∧ W.cell? ⟨nq, 0, none⟩ = some vq ∧ Pure W0 W
theorem PutW.st {na nb nq o : Nat} {va0 va1 vb0 vb1 vq : Value} {aB bB cl : List Dot} {w6 W0 W : World} (h : PutW na nb nq o va0 va1 vb0 vb1 vq aB bB cl w6) (hk : Kept (fun k => k = o) w6 W0) (hp : Pure W0 W) : PutS na nb nq va0 va1 vb0 vb1 vq W0 W := by
  have hK := hk.trans (hp.kept (S := fun k => k = o))
  have ea := (hK.block _ (lt_of_block h.a) h.ao).trans h.a
  have eb := (hK.block _ (lt_of_block h.b) h.bo).trans h.b
  have eq := (hK.block _ (lt_of_block h.q) h.qo).trans h.q
  exact ⟨cell_of_block ea 0, cell_of_block ea 1, cell_of_block eb 0, cell_of_block eb 1, cell_of_block eq 0, hp⟩
end Go.Proofs.YtdlpnhfgjficgaaGreat

namespace Go.Proofs.YtdlpnhfgjficgaaGreat
open Go.RowKit Go.Maps Go.Shelf Go.Sort

/-- What a context in a join must be. -/
structure JOk (B C : List Dot) : Prop where
  sb : Rise B
  bb : ∀ d ∈ B, 0 ≤ d.2 ∧ d.2 ≤ 1152921504606846976
  bc : ∀ d ∈ C, d.2 ≤ 1152921504606846976
  wb : ∀ d ∈ B, (Lit.int .i64 d.1).wf = true
  wc : ∀ d ∈ C, (Lit.int .i64 d.1).wf = true
/-- The blocks that Join lays first. -/
structure JnW (s : Nat) (va0 va1 vb0 vb1 : Value) (W : World) : Prop where
  a : W.heap[s]? = some (.cells #[va0, va1] 32 (0, 0))
  b : W.heap[s + 1]? = some (.cells #[vb0, vb1] 32 (0, 0))
  r : W.heap[s + 2]? = some (.cells #[.slice none 0 0, .slice none 0 0] 32 (0, 0))
  o : W.heap[s + 3]? = some (.cells #[.slice none 0 0, .slice none 0 0] 32 (0, 0))
theorem JnW.pure {s : Nat} {va0 va1 vb0 vb1 : Value} {W W' : World} (h : JnW s va0 va1 vb0 vb1 W) (hp : Pure W W') : JnW s va0 va1 vb0 vb1 W' :=
  ⟨(hp.block _ (lt_of_block h.a)).trans h.a, (hp.block _ (lt_of_block h.b)).trans h.b, (hp.block _ (lt_of_block h.r)).trans h.r, (hp.block _ (lt_of_block h.o)).trans h.o⟩
theorem JnW.cells {s : Nat} {va0 va1 vb0 vb1 : Value} {W : World} (h : JnW s va0 va1 vb0 vb1 W) : W.cell? ⟨s, 0, none⟩ = some va0 ∧ W.cell? ⟨s, 1, none⟩ = some va1 ∧ W.cell? ⟨s + 1, 0, none⟩ = some vb0 ∧ W.cell? ⟨s + 1, 1, none⟩ = some vb1 :=
  ⟨cell_of_block h.a 0, cell_of_block h.a 1, cell_of_block h.b 0, cell_of_block h.b 1⟩
theorem JnW.made (w : World) (va0 va1 vb0 vb1 : Value) : ∃ wz, wz = (((w.alloc (.cells #[va0, va1] 32)).alloc (.cells #[vb0, vb1] 32)).alloc (.cells #[.slice none 0 0, .slice none 0 0] 32)).alloc (.cells #[.slice none 0 0, .slice none 0 0] 32) ∧
    Pure w wz ∧ wz.heap.size = w.heap.size + 4 ∧ JnW w.heap.size va0 va1 vb0 vb1 wz := by
  refine ⟨_, rfl, ((((Below.refl _ _).alloc (Nat.le_refl _) _).alloc (by simp) _).alloc (by simp; omega) _).alloc (by simp; omega) _, by simp, ?_⟩
  have n1 := block_alloc_new (w.alloc (.cells #[va0, va1] 32)) (.cells #[vb0, vb1] 32)
  have n2 := block_alloc_new ((w.alloc (.cells #[va0, va1] 32)).alloc (.cells #[vb0, vb1] 32)) (.cells #[.slice none 0 0, .slice none 0 0] 32)
  have n3 := block_alloc_new (((w.alloc (.cells #[va0, va1] 32)).alloc (.cells #[vb0, vb1] 32)).alloc (.cells #[.slice none 0 0, .slice none 0 0] 32)) (.cells #[.slice none 0 0, .slice none 0 0] 32)
  simp only [World.size_alloc] at n1 n2 n3
  exact ⟨block_alloc_old (block_alloc_old (block_alloc_old (block_alloc_new w _) _) _) _, block_alloc_old (block_alloc_old n1 _) _, block_alloc_old n2 _, n3⟩

end Go.Proofs.YtdlpnhfgjficgaaGreat

namespace Go.Proofs.YtdlpnhfgjficgaaGreat
open Go.RowKit Go.Maps Go.Shelf Go.Sort

theorem RsC.grown {s : Nat} {W W' : World} {r : Option Nat} (h : Hid (RsC s W)) (hg : W.grownBy W' r) (hr : r ≠ some s) : Hid (RsC s W') ∧ W'.cell? ⟨s, 0, none⟩ = some (.slice none 0 0) ∧ W'.cell? ⟨s, 1, none⟩ = some (.slice none 0 0) ∧ W'.frozen? ⟨s, 0, none⟩ = false ∧ W'.frozen? ⟨s, 1, none⟩ = false := by
  have e : RsC s W' := (hg.block _ (lt_of_block h.out) (fun e => hr e.symm)).trans h.out
  exact ⟨e, cell_of_block e 0, cell_of_block e 1, free_of_block e 0, free_of_block e 1⟩
theorem wf_dok {d : Dot} (h : dok d) : (Lit.int .i64 d.1).wf = true := wf_i64 _ (by obtain ⟨h1, h2, _⟩ := h; omega)

end Go.Proofs.YtdlpnhfgjficgaaGreat

