/- dot.Read, dot.ReadRow, ctx.Read. Rows that are read: what stands between two rounds of a reader's loop. -/
import Derived.Test.YtdlpnhfgjficgaaGreatMBs
import Derived.Test.YtdlpnhfgjficgaaGreatMJm
import Derived.Test.YtdlpnhfgjficgaaGreatMQa
import Derived.Test.YtdlpnhfgjficgaaGreatRW
import Derived.Test.YtdlpnhfgjficgaaGreatMGk
namespace Go.Proofs.YtdlpnhfgjficgaaGreat
open Go.RowKit Go.Maps Go.Shelf Go.Sort

/-- A reader, and what has been kept since w. -/
structure RdK (T : TypeId) (b : Nat) (s : RS) (w W : World) : Prop where
  r : RdAt T b s W
  k : Kept (fun k => k = b) w W
theorem RdK.start {T : TypeId} {b : Nat} {s : RS} {w : World} (h : RdAt T b s w) : RdK T b s w w := ⟨h, Kept.refl _ _⟩
theorem RdK.pure {T : TypeId} {b : Nat} {s : RS} {w W W' : World} (h : RdK T b s w W) (hp : Pure W W') : RdK T b s w W' := ⟨h.r.pure hp, h.k.trans hp.kept⟩
theorem RdK.alloc {T : TypeId} {b : Nat} {s : RS} {w W : World} (h : RdK T b s w W) (o : Obj) : RdK T b s w (W.alloc o) := h.pure ((Below.refl _ _).alloc (Nat.le_refl _) o)
theorem RdK.next {T : TypeId} {b : Nat} {s s' : RS} {w W W' : World} (h : RdK T b s w W) (hr : RdAt T b s' W') (hk : Kept (fun k => k = b) W W') : RdK T b s' w W' := ⟨hr, h.k.trans hk⟩
theorem RdK.set {T : TypeId} {b : Nat} {s : RS} {w W : World} (h : RdK T b s w W) {n i : Nat} (hn : w.heap.size ≤ n) (hb : n ≠ b) (v : Value) : RdK T b s w (W.setCell ⟨n, i, none⟩ v) :=
  ⟨h.r.kept (S := fun k => k = n) (Kept.setCell (S := fun k => k = n) (Kept.refl _ _) (p := ⟨n, i, none⟩) (fun _ => rfl) v) (fun e => hb e.symm), h.k.setCell (p := ⟨n, i, none⟩) (fun h => absurd h (by show ¬ n < _; omega)) v⟩
theorem block_kept {b n : Nat} {o : Obj} {W W' : World} (e : W.heap[n]? = some o) (hk : Kept (fun k => k = b) W W') (hn : n ≠ b) : W'.heap[n]? = some o := (hk.block n (lt_of_block e) hn).trans e

/-- What a call hands back that reads a row, and how it leaves the reader. -/
def RdRowP (T : TypeId) (b : Nat) (l : List Dot) (s : RS) (w : World) (e : Ending) (w' : World) : Prop := ∃ v, e = .returned v ∧ Dots w' v l ∧ (∀ k, v.rb = some k → w.heap.size ≤ k) ∧ RdAt T b s w' ∧ Kept (fun k => k = b) w w'
theorem own_kept {S : Nat → Prop} {w w' : World} {base e size : Nat} {v : Value} {n : Nat} {xs : List Value} (h : w.ownsRow base e size v n xs) (hk : Kept S w w') (hS : ∀ k, v.ownBlock = some k → ¬ S k) : w'.ownsRow base e size v n xs := by
  obtain ⟨hl, h | ⟨g, cap, cur, rfl, hb, hg, h1, h2, h3, h4⟩⟩ := h
  · exact ⟨hl, .inl h⟩
  · exact ⟨hl, .inr ⟨g, cap, cur, rfl, hb, (hk.block g (lt_of_block hg) (hS g rfl)).trans hg, h1, h2, h3, h4⟩⟩
theorem rdInt_zero (most : Int) (s : RS) (h : (rdInt most s).2 = none) : (rdInt most s).1 = 0 := by
  unfold rdInt at h ⊢
  split
  · rfl
  · rename_i n r e
    rw [e] at h
    dsimp only at h
    split
    · rfl
    · rename_i hn; rw [if_neg hn] at h; cases h
theorem RdK.grown {T : TypeId} {b : Nat} {s : RS} {w W W' : World} {row : Option Nat} (h : RdK T b s w W) (hg : W.grownBy W' row) (hr : ∀ k, row = some k → w.heap.size ≤ k) (hb : b < w.heap.size) : RdK T b s w W' :=
  ⟨h.r.kept (S := fun k => row = some k) (Kept.grown (S := fun k => row = some k) (Kept.refl _ _) hg (fun k hk _ => hk)) (fun e => by have := hr b e; omega), h.k.grown hg (fun k hk hl => by have := hr k hk; omega)⟩
theorem RdK.lt {T : TypeId} {b : Nat} {s : RS} {w W : World} (h : RdK T b s w W) : w.heap.size ≤ W.heap.size := h.k.size
end Go.Proofs.YtdlpnhfgjficgaaGreat

namespace Go.Proofs.YtdlpnhfgjficgaaGreat
open Go.RowKit Go.Maps

def RdRowG {α : Type} (f : α → List Value) (sz : Nat) (T : TypeId) (b : Nat) (l : List α) (s : RS) (w : World) (e : Ending) (w' : World) : Prop := ∃ v, e = .returned v ∧ GRow f sz w' v l ∧ (∀ k, v.rb = some k → w.heap.size ≤ k) ∧ RdAt T b s w' ∧ Kept (fun k => k = b) w w'
/-- What is still to come, a torn reader read on. -/
def RdIn {α : Type} (f : RS → α × RS) (total : List α × RS) (m : Nat) (acc : List α) (s : RS) : Prop := match s with
  | some t => rdItems f m acc (some t) = total
  | none => total = ([], none)
theorem RdIn.step {α : Type} {f : RS → α × RS} {total : List α × RS} {m : Nat} {acc : List α} {s : RS} (hf : (f none).2 = none) (h : RdIn f total (m + 1) acc s) : RdIn f total m (acc ++ [(f s).1]) (f s).2 := by
  cases s with
  | none => rw [hf]; exact h
  | some t =>
    have h' : rdItems f (m + 1) acc (some t) = total := h
    cases e : (f (some t)).2 with
    | none =>
      have : f (some t) = ((f (some t)).1, none) := Prod.ext rfl e
      rw [rdItems_torn f m acc (some t) _ this] at h'
      exact h'.symm
    | some r =>
      have : f (some t) = ((f (some t)).1, some r) := Prod.ext rfl e
      rw [rdItems_fine f m acc (some t) _ r this] at h'
      exact h'
theorem RdIn.start {α : Type} (f : RS → α × RS) (m : Nat) (s : RS) (hz : s = none → m = 0) : RdIn f (rdItems f m [] s) m [] s := by
  cases s with
  | none => rw [hz rfl]; rfl
  | some t => rfl
theorem RdIn.fin {α : Type} {f : RS → α × RS} {total : List α × RS} {acc : List α} {s : RS} (h : RdIn f total 0 acc s) : total = (match s with | some t => (acc, some t) | none => ([], none)) := by
  cases s with
  | none => exact h
  | some t => exact h.symm
/-- An own row of whatever elements, its block not the reader's. -/
structure RdOwn {α : Type} (f : α → List Value) (sz : Nat) (E : TypeId) (T : TypeId) (b : Nat) (v : Value) (acc : List α) (s : RS) (w W : World) : Prop where
  r : RdK T b s w W
  own : W.ownsRow w.heap.size E sz v acc.length (gvs f acc)
  wb : b < w.heap.size
section
variable {α : Type} {f : α → List Value} {sz : Nat} {E T : TypeId} {b : Nat} {v : Value} {acc : List α} {s s' : RS} {w W W' : World}
theorem RdOwn.next (h : RdOwn f sz E T b v acc s w W) (hr : RdAt T b s' W') (hk : Kept (fun k => k = b) W W') : RdOwn f sz E T b v acc s' w W' :=
  ⟨h.r.next hr hk, own_kept h.own hk (fun j hj e => by have := (h.own.lt j hj).1; have := h.wb; omega), h.wb⟩
theorem RdOwn.pure (h : RdOwn f sz E T b v acc s w W) (hp : Pure W W') : RdOwn f sz E T b v acc s w W' := h.next (h.r.r.pure hp) hp.kept
theorem RdOwn.alloc (h : RdOwn f sz E T b v acc s w W) (o : Obj) : RdOwn f sz E T b v acc s w (W.alloc o) := h.pure ((Below.refl _ _).alloc (Nat.le_refl _) o)
theorem RdOwn.set (h : RdOwn f sz E T b v acc s w W) {n i : Nat} (hn : w.heap.size ≤ n) (ho : ∀ k, v.ownBlock = some k → k ≠ n) (u : Value) : RdOwn f sz E T b v acc s w (W.setCell ⟨n, i, none⟩ u) :=
  ⟨h.r.set hn (by have := h.wb; omega) u, own_kept h.own (Kept.setCell (S := fun k => k = n) (Kept.refl _ _) (p := ⟨n, i, none⟩) (fun _ => rfl) u) ho, h.wb⟩
theorem RdOwn.grow (h : RdOwn f sz E T b v acc s w W) {v' : Value} {acc' : List α} (hg : W.grownBy W' v.ownBlock) (hv : W'.ownsRow w.heap.size E sz v' acc'.length (gvs f acc')) : RdOwn f sz E T b v' acc' s w W' := by
  have hb := h.wb
  have hk : Kept (fun k => w.heap.size ≤ k) W W' := Kept.grown (S := fun k => w.heap.size ≤ k) (Kept.refl _ _) hg (fun k hk _ => (h.own.lt k hk).1)
  exact ⟨⟨h.r.r.kept hk (by omega), ⟨hk.os.trans h.r.k.os, hk.tape.trans h.r.k.tape, hk.output.trans h.r.k.output, Nat.le_trans h.r.k.size hk.size, fun k hk' he => (hk.block k (Nat.lt_of_lt_of_le hk' h.r.k.size) (by omega)).trans (h.r.k.block k hk' he)⟩⟩, hv, hb⟩
theorem RdOwn.row (h : RdOwn f sz E T b v acc s w W) : GRow f sz W v acc := Row.of_own h.own
theorem RdOwn.fr (h : RdOwn f sz E T b v acc s w W) : ∀ k, v.rb = some k → w.heap.size ≤ k := fun k hk => (h.own.lt k (rb_own hk)).1
theorem RdOwn.done (h : RdOwn f sz E T b v acc s w W) {l : List α} {s1 : RS} (el : acc = l) (es : s = s1) : RdRowG f sz T b l s1 w (.returned v) W := by
  subst el; subst es
  exact ⟨v, rfl, h.row, h.fr, h.r.r, h.r.k⟩
theorem RdOwn.none_ (h : RdOwn f sz E T b v acc none w W) {l : List α} {s1 : RS} (el : l = []) (es : s1 = none) : RdRowG f sz T b l s1 w (.returned (.slice none 0 0)) W := by
  subst el; subst es
  exact ⟨_, rfl, Row.nil _ _, fun k hk => by simp [Value.rb] at hk, h.r.r, h.r.k⟩
end
end Go.Proofs.YtdlpnhfgjficgaaGreat

