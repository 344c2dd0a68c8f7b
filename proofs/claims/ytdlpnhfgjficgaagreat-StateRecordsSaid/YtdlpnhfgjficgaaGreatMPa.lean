/- dot: rows of names cloned and sorted. slices.Compact of an owned row of names, in plain words; what the walk needs. slices.Compact of an owned row of names: the walk. slices.DeleteFunc at names, of an owned row. dot.Of. -/
import Derived.Test.YtdlpnhfgjficgaaGreatMX3
namespace Go.Proofs.YtdlpnhfgjficgaaGreat
open Go.RowKit Go.Maps Go.Shelf Go.Sort

instance : Inhabited Dot := ⟨(0, 0)⟩
end Go.Proofs.YtdlpnhfgjficgaaGreat

namespace Go.Proofs.YtdlpnhfgjficgaaGreat
open Go.RowKit Go.Maps Go.Shelf Go.Sort

def cst (out : List Dot) (d : Dot) : List Dot := if out.getLast? = some d then out else out ++ [d]
def compL (l : List Dot) : List Dot := l.foldl cst []
theorem compL_take (l : List Dot) (k : Nat) (h : k < l.length) : compL (l.take (k + 1)) = cst (compL (l.take k)) (l.getD k (0, 0)) := by
  unfold compL; rw [take_succ_d l k h, List.foldl_append]; rfl
theorem compL_last (l : List Dot) (k : Nat) (h : k < l.length) : (compL (l.take (k + 1))).getLast? = some (l.getD k (0, 0)) := by
  rw [compL_take l k h]; unfold cst
  split
  · assumption
  · simp
theorem compL_same {l : List Dot} {k : Nat} (h1 : 1 ≤ k) (h : k < l.length) (e : l.getD k (0, 0) = l.getD (k - 1) (0, 0)) : compL (l.take (k + 1)) = compL (l.take k) := by
  obtain ⟨k, rfl⟩ : ∃ j, k = j + 1 := ⟨k - 1, by omega⟩
  rw [compL_take l _ h]; unfold cst
  rw [compL_last l k (by omega), if_pos (by rw [e]; simp)]
theorem compL_new {l : List Dot} {k : Nat} (h1 : 1 ≤ k) (h : k < l.length) (e : ¬ l.getD k (0, 0) = l.getD (k - 1) (0, 0)) : compL (l.take (k + 1)) = compL (l.take k) ++ [l.getD k (0, 0)] := by
  obtain ⟨k, rfl⟩ : ∃ j, k = j + 1 := ⟨k - 1, by omega⟩
  rw [compL_take l _ h]; unfold cst
  rw [compL_last l k (by omega), if_neg (by intro h; injection h with h; exact e (by simpa using h.symm))]
theorem dvs_set : ∀ (l : List Dot) (k : Nat) (d : Dot), k < l.length → ((dvs l).set (k * 2) (.int .i64 d.1)).set (k * 2 + 1) (.int .i64 d.2) = dvs (l.set k d)
  | [], k, _, h => absurd h (Nat.not_lt_zero _)
  | a :: l, 0, d, _ => rfl
  | a :: l, k + 1, d, h => by
    have ih := dvs_set l k d (by simpa using h)
    have e : dvs (a :: l) = .int .i64 a.1 :: .int .i64 a.2 :: dvs l := rfl
    have e2 : dvs ((a :: l).set (k + 1) d) = .int .i64 a.1 :: .int .i64 a.2 :: dvs (l.set k d) := rfl
    rw [e, e2, ← ih, show (k + 1) * 2 = k * 2 + 1 + 1 by omega]
    simp
theorem own_set_d {w : World} {base b n cap : Nat} {l : List Dot} (h : w.ownsRow base 28 2 (.slice (some ⟨b, 0, none⟩) n cap) l.length (dvs l)) {k : Nat} (hk : k < l.length) (d : Dot) :
    ((w.setCell ⟨b, k * 2, none⟩ (.int .i64 d.1)).setCell ⟨b, k * 2 + 1, none⟩ (.int .i64 d.2)).ownsRow base 28 2 (.slice (some ⟨b, 0, none⟩) n cap) (l.set k d).length (dvs (l.set k d)) := by
  have e : n = l.length := by obtain ⟨a', c', e⟩ := (Row.of_own h).shape; injection e
  subst e
  have h1 := (h.stored (k * 2) (.int .i64 d.1)).1
  have h2 := (h1.stored (k * 2 + 1) (.int .i64 d.2)).1
  rw [dvs_set l k d hk] at h2
  rw [List.length_set]; exact h2

theorem block_setCells {b : Nat} {t : TypeId} {f : Nat × Nat} : ∀ (vs : List Value) (o : Nat) (w : World) (cs : Array Value), w.heap[b]? = some (.cells cs t f) → (w.setCells b o vs).heap[b]? = some (.cells (setMany cs o vs) t f)
  | [], _, _, _, h => h
  | v :: r, o, _, _, h => block_setCells r (o + 1) _ _ (block_setCell h o v)
theorem setMany_take : ∀ (vs : List Value) (o : Nat) (cs : Array Value) (k : Nat), k ≤ o → (setMany cs o vs).toList.take k = cs.toList.take k
  | [], _, _, _, _ => rfl
  | v :: r, o, cs, k, h => by
    rw [setMany, setMany_take r (o + 1) _ k (by omega), Array.toList_setIfInBounds, List.take_set_of_le h]
theorem grownBy_setCells (g : Nat) : ∀ (vs : List Value) (o : Nat) (w : World), w.grownBy (w.setCells g o vs) (some g)
  | [], _, w => World.grownBy.refl _ _
  | v :: r, o, w => by
    have h1 : w.grownBy (w.setCell ⟨g, o, none⟩ v) (some g) := ⟨rfl, rfl, rfl, by simp [World.setCell], fun k hk hne => Below.heap_setCell _ _ _ _ (fun e => hne (by rw [e]))⟩
    have h2 := grownBy_setCells g r (o + 1) (w.setCell ⟨g, o, none⟩ v)
    exact ⟨h2.os.trans h1.os, h2.tape.trans h1.tape, h2.output.trans h1.output, Nat.le_trans h1.size h2.size, fun k hk hne => (h2.block k (Nat.lt_of_lt_of_le hk h1.size) hne).trans (h1.block k hk hne)⟩
/-- The row is cut to its first i; what lies behind is written over. -/
theorem own_cut {w : World} {base g n cap : Nat} {L : List Dot} (h : w.ownsRow base 28 2 (.slice (some ⟨g, 0, none⟩) n cap) L.length (dvs L)) {i : Nat} (hi : i ≤ L.length) (vs : List Value) :
    (w.setCells g (i * 2) vs).ownsRow base 28 2 (.slice (some ⟨g, 0, none⟩) i cap) (L.take i).length (dvs (L.take i)) := by
  have hlen : (L.take i).length = i := by rw [List.length_take]; omega
  obtain ⟨hl, ⟨e, h0⟩ | ⟨g', cap', cur, e, hb, hg, h1, h2, h3, h4⟩⟩ := h
  · cases e
  · cases e
    refine ⟨by rw [dvs_len], .inr ⟨g, cap, _, by rw [hlen], hb, block_setCells vs (i * 2) w cur hg, by omega, h2, by rw [size_setMany, h3], ?_⟩⟩
    rw [hlen, setMany_take _ _ _ _ (Nat.le_refl _), dvs_take, ← h4, List.take_take, Nat.min_eq_left (Nat.mul_le_mul_right 2 hi)]

end Go.Proofs.YtdlpnhfgjficgaaGreat

namespace Go.Proofs.YtdlpnhfgjficgaaGreat
open Go.RowKit Go.Maps Go.Shelf Go.Sort

def CpP (base : Nat) (v : Value) (l : List Dot) (w : World) (e : Ending) (w' : World) : Prop := ∃ v', e = .returned v' ∧ w'.ownsRow base 28 2 v' (compL l).length (dvs (compL l)) ∧ w.grownBy w' v.ownBlock
theorem grown_drewN {w w' : World} {r : Option Nat} (h : w.grownBy w' r) (q : Nat) : w.grownBy (w'.drewN q) r := ⟨h.os, h.tape, h.output, h.size, h.block⟩
/-- i are kept, r are read. -/
structure CpI (base : Nat) (l : List Dot) (v : Value) (w : World) (i r : Nat) (L : List Dot) (W : World) : Prop where
  lt : i < r
  len : L.length = l.length
  own : W.ownsRow base 28 2 v L.length (dvs L)
  grown : w.grownBy W v.ownBlock
  low : compL (l.take r) = L.take i
  high : ∀ j, r - 1 ≤ j → L.getD j (0, 0) = l.getD j (0, 0)
theorem CpI.start {base : Nat} {l : List Dot} {v : Value} {w : World} {k : Nat} (h : w.ownsRow base 28 2 v l.length (dvs l)) (h1 : 1 ≤ k) (hk : k < l.length) (hc : compL (l.take k) = l.take k) (he : l.getD k (0, 0) = l.getD (k - 1) (0, 0)) (q : Nat) : CpI base l v w k (k + 1) l (w.drewN q) :=
  ⟨by omega, rfl, h, grown_drewN (World.grownBy.refl _ _) q, by rw [compL_same h1 hk he, hc], fun _ _ => rfl⟩
theorem CpI.drewN {base : Nat} {l : List Dot} {v : Value} {w : World} {i r : Nat} {L : List Dot} {W : World} (h : CpI base l v w i r L W) (q : Nat) : CpI base l v w i r L (W.drewN q) := ⟨h.lt, h.len, h.own, grown_drewN h.grown q, h.low, h.high⟩
theorem CpI.skip {base : Nat} {l : List Dot} {v : Value} {w : World} {i r : Nat} {L : List Dot} {W : World} (h : CpI base l v w i r L W) (hr : r < l.length) (h1 : 1 ≤ r) (e : l.getD r (0, 0) = l.getD (r - 1) (0, 0)) : CpI base l v w i (r + 1) L W :=
  ⟨by have := h.lt; omega, h.len, h.own, h.grown, by rw [compL_same h1 hr e, h.low], fun j hj => h.high j (by omega)⟩
theorem CpI.keep {base g n cap : Nat} {l : List Dot} {w : World} {i r : Nat} {L : List Dot} {W : World} (h : CpI base l (.slice (some ⟨g, 0, none⟩) n cap) w i r L W) (hr : r < l.length) (h1 : 1 ≤ r) (e : ¬ l.getD r (0, 0) = l.getD (r - 1) (0, 0)) (d : Dot) (hd : l.getD r (0, 0) = d) :
    CpI base l (.slice (some ⟨g, 0, none⟩) n cap) w (i + 1) (r + 1) (L.set i d) ((W.setCell ⟨g, i * 2, none⟩ (.int .i64 d.1)).setCell ⟨g, i * 2 + 1, none⟩ (.int .i64 d.2)) := by
  have hlt := h.lt
  have hlen := h.len
  have hi : i < L.length := by omega
  refine ⟨by omega, by rw [List.length_set, hlen], own_set_d h.own hi d, ?_, ?_, fun j hj => ?_⟩
  · have hg := h.grown
    have hb : (Value.slice (some ⟨g, 0, none⟩) n cap).ownBlock = some g := rfl
    rw [hb] at hg ⊢
    have e2 : (W.setCell ⟨g, i * 2, none⟩ (.int .i64 d.1)).setCell ⟨g, i * 2 + 1, none⟩ (.int .i64 d.2) = W.setCells g (i * 2) [.int .i64 d.1, .int .i64 d.2] := rfl
    rw [e2]
    have h2 := grownBy_setCells g [.int .i64 d.1, .int .i64 d.2] (i * 2) W
    exact ⟨h2.os.trans hg.os, h2.tape.trans hg.tape, h2.output.trans hg.output, Nat.le_trans hg.size h2.size, fun k hk hne => (h2.block k (Nat.lt_of_lt_of_le hk hg.size) hne).trans (hg.block k hk hne)⟩
  · rw [compL_new h1 hr e, h.low, hd, List.take_set, List.take_succ_eq_append_getElem hi]
    rw [List.set_append_right _ _ (by rw [List.length_take]; omega)]
    simp [Nat.min_eq_left (Nat.le_of_lt hi)]
  · rw [← h.high j (by omega)]
    simp only [List.getD]
    rw [List.getElem?_set_ne (by omega)]
theorem CpI.done {base g n cap : Nat} {l : List Dot} {w : World} {i : Nat} {L : List Dot} {W : World} (h : CpI base l (.slice (some ⟨g, 0, none⟩) n cap) w i l.length L W) (vs : List Value) :
    CpP base (.slice (some ⟨g, 0, none⟩) n cap) l w (.returned (.slice (some ⟨g, 0, none⟩) i cap)) (W.setCells g (i * 2) vs) := by
  have hl := h.low
  rw [List.take_length] at hl
  refine ⟨_, rfl, ?_, ?_⟩
  · rw [hl]
    have e : (L.take i).length = i := by rw [List.length_take, h.len]; have := h.lt; omega
    have := own_cut h.own (i := i) (by rw [h.len]; exact Nat.le_of_lt h.lt) vs
    exact this
  · have hg := h.grown
    have hb : (Value.slice (some ⟨g, 0, none⟩) n cap).ownBlock = some g := rfl
    rw [hb] at hg ⊢
    have h2 := grownBy_setCells g vs (i * 2) W
    exact ⟨h2.os.trans hg.os, h2.tape.trans hg.tape, h2.output.trans hg.output, Nat.le_trans hg.size h2.size, fun k hk hne => (h2.block k (Nat.lt_of_lt_of_le hk hg.size) hne).trans (hg.block k hk hne)⟩

end Go.Proofs.YtdlpnhfgjficgaaGreat

namespace Go.Proofs.YtdlpnhfgjficgaaGreat
open Go.RowKit Go.Maps Go.Shelf Go.Sort

theorem grown_trans {a b c : World} {r : Option Nat} (h : a.grownBy b r) (k : b.grownBy c r) : a.grownBy c r :=
  ⟨k.os.trans h.os, k.tape.trans h.tape, k.output.trans h.output, Nat.le_trans h.size k.size, fun i hi hne => (k.block i (Nat.lt_of_lt_of_le hi h.size) hne).trans (h.block i hi hne)⟩
theorem grown_of_pure {a b : World} (r : Option Nat) (h : Pure a b) : a.grownBy b r := ⟨h.os, h.tape, h.output, h.size, fun k hk _ => h.block k hk⟩
/-- i are kept, r are read. -/
structure DfI (base : Nat) (l : List Dot) (p : Dot → Bool) (v : Value) (w : World) (i r : Nat) (L : List Dot) (W : World) : Prop where
  lt : i < r
  len : L.length = l.length
  own : W.ownsRow base 28 2 v L.length (dvs L)
  grown : w.grownBy W v.ownBlock
  low : (l.take r).filter (fun d => !p d) = L.take i
  high : ∀ j, r ≤ j → L.getD j (0, 0) = l.getD j (0, 0)
theorem DfI.start {base : Nat} {l : List Dot} {p : Dot → Bool} {v : Value} {w W : World} {k : Nat} (h : W.ownsRow base 28 2 v l.length (dvs l)) (hg : w.grownBy W v.ownBlock) (hk : k < l.length) (hn : ∀ d ∈ l.take k, p d = false) (hp : p (l.getD k (0, 0)) = true) : DfI base l p v w k (k + 1) l W :=
  ⟨by omega, rfl, h, hg, by
    rw [take_succ_d l k hk, List.filter_append, List.filter_eq_self.2 (fun d hd => by rw [hn d hd]; rfl)]
    simp only [List.filter_cons, hp]; simp, fun _ _ => rfl⟩
theorem DfI.pure {base : Nat} {l : List Dot} {p : Dot → Bool} {v : Value} {w : World} {i r : Nat} {L : List Dot} {W W' : World} (h : DfI base l p v w i r L W) (hp : Pure W W') : DfI base l p v w i r L W' := ⟨h.lt, h.len, own_pure h.own hp, grown_trans h.grown (grown_of_pure _ hp), h.low, h.high⟩
theorem DfI.skip {base : Nat} {l : List Dot} {p : Dot → Bool} {v : Value} {w : World} {i r : Nat} {L : List Dot} {W : World} (h : DfI base l p v w i r L W) (hr : r < l.length) (e : p (l.getD r (0, 0)) = true) : DfI base l p v w i (r + 1) L W :=
  ⟨by have := h.lt; omega, h.len, h.own, h.grown, by rw [take_succ_d l r hr, List.filter_append, h.low]; simp only [List.filter_cons, e]; simp, fun j hj => h.high j (by omega)⟩
theorem DfI.keep {base g n cap : Nat} {l : List Dot} {p : Dot → Bool} {w : World} {i r : Nat} {L : List Dot} {W : World} (h : DfI base l p (.slice (some ⟨g, 0, none⟩) n cap) w i r L W) (hr : r < l.length) (d : Dot) (hd : l.getD r (0, 0) = d) (e : p d = false) :
    DfI base l p (.slice (some ⟨g, 0, none⟩) n cap) w (i + 1) (r + 1) (L.set i d) ((W.setCell ⟨g, i * 2, none⟩ (.int .i64 d.1)).setCell ⟨g, i * 2 + 1, none⟩ (.int .i64 d.2)) := by
  have hlt := h.lt
  have hlen := h.len
  have hi : i < L.length := by omega
  refine ⟨by omega, by rw [List.length_set, hlen], own_set_d h.own hi d, ?_, ?_, fun j hj => ?_⟩
  · exact grown_trans h.grown (grownBy_setCells g [.int .i64 d.1, .int .i64 d.2] (i * 2) W)
  · rw [take_succ_d l r hr, List.filter_append, h.low, hd, List.take_set, List.take_succ_eq_append_getElem hi]
    rw [List.set_append_right _ _ (by rw [List.length_take]; omega)]
    simp [Nat.min_eq_left (Nat.le_of_lt hi), e]
  · rw [← h.high j (by omega)]
    simp only [List.getD]
    rw [List.getElem?_set_ne (by omega)]
def DfP (base : Nat) (v : Value) (l : List Dot) (p : Dot → Bool) (w : World) (e : Ending) (w' : World) : Prop := ∃ v', e = .returned v' ∧ w'.ownsRow base 28 2 v' (l.filter fun d => !p d).length (dvs (l.filter fun d => !p d)) ∧ w.grownBy w' v.ownBlock
theorem DfI.done {base g n cap : Nat} {l : List Dot} {p : Dot → Bool} {w : World} {i : Nat} {L : List Dot} {W : World} (h : DfI base l p (.slice (some ⟨g, 0, none⟩) n cap) w i l.length L W) (vs : List Value) :
    DfP base (.slice (some ⟨g, 0, none⟩) n cap) l p w (.returned (.slice (some ⟨g, 0, none⟩) i cap)) (W.setCells g (i * 2) vs) := by
  have hl := h.low
  rw [List.take_length] at hl
  refine ⟨_, rfl, ?_, grown_trans h.grown (grownBy_setCells g vs (i * 2) W)⟩
  rw [hl]
  exact own_cut h.own (i := i) (by rw [h.len]; exact Nat.le_of_lt h.lt) vs
end Go.Proofs.YtdlpnhfgjficgaaGreat

namespace Go.Proofs.YtdlpnhfgjficgaaGreat
open Go.RowKit Go.Maps Go.Shelf Go.Sort

def onode (l : List Dot) (node : Int) : List Dot := l.filter fun d => d.1 == node
end Go.Proofs.YtdlpnhfgjficgaaGreat

