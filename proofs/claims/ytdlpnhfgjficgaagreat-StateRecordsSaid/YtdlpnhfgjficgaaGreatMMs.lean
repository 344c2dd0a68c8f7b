/- Rows of messages: cloned, read and written where they are the call's own. slices.DeleteFunc at messages, of an owned row. -/
import Derived.Test.YtdlpnhfgjficgaaGreatMMsg
import Derived.Test.YtdlpnhfgjficgaaGreatMQa
namespace Go.Proofs.YtdlpnhfgjficgaaGreat
open Go.RowKit Go.Maps Go.Shelf Go.Sort

theorem mvs_take : ∀ (l : List Msg) (k : Nat), mvs (l.take k) = (mvs l).take (k * 5)
  | [], k => by simp [mvs]
  | d :: l, 0 => by simp [mvs]
  | d :: l, k + 1 => by
    have ih := mvs_take l k
    have e : mvs (d :: l) = mcells d ++ mvs l := rfl
    have e2 : mvs (d :: l.take k) = mcells d ++ mvs (l.take k) := rfl
    rw [List.take_succ_cons, e2, e, ih, show (k + 1) * 5 = (mcells d).length + k * 5 by show _ = 5 + k * 5; omega, List.take_length_add_append]
theorem mvs_set : ∀ (l : List Msg) (k : Nat) (d : Msg), k < l.length → (((((mvs l).set (k * 5) (.int .i64 d.1.1)).set (k * 5 + 1) (.int .i64 d.1.2)).set (k * 5 + 2) (.string (bs d.2.1))).set (k * 5 + 3) (.string (bs d.2.2.1))).set (k * 5 + 4) (.int .i64 d.2.2.2) = mvs (l.set k d)
  | [], k, _, h => absurd h (Nat.not_lt_zero _)
  | a :: l, 0, d, _ => rfl
  | a :: l, k + 1, d, h => by
    have ih := mvs_set l k d (by simpa using h)
    have e : mvs (a :: l) = .int .i64 a.1.1 :: .int .i64 a.1.2 :: .string (bs a.2.1) :: .string (bs a.2.2.1) :: .int .i64 a.2.2.2 :: mvs l := rfl
    have e2 : mvs ((a :: l).set (k + 1) d) = .int .i64 a.1.1 :: .int .i64 a.1.2 :: .string (bs a.2.1) :: .string (bs a.2.2.1) :: .int .i64 a.2.2.2 :: mvs (l.set k d) := rfl
    rw [e, e2, ← ih, show (k + 1) * 5 = k * 5 + 1 + 1 + 1 + 1 + 1 by omega]
    simp [List.set_cons_succ]
/-- A message is written at place k of block b. -/
def setM (W : World) (b k : Nat) (d : Msg) : World := ((((W.setCell ⟨b, k * 5, none⟩ (.int .i64 d.1.1)).setCell ⟨b, k * 5 + 1, none⟩ (.int .i64 d.1.2)).setCell ⟨b, k * 5 + 2, none⟩ (.string (bs d.2.1))).setCell ⟨b, k * 5 + 3, none⟩ (.string (bs d.2.2.1))).setCell ⟨b, k * 5 + 4, none⟩ (.int .i64 d.2.2.2)
theorem own_set_m {w : World} {base b n cap : Nat} {l : List Msg} (h : w.ownsRow base 43 5 (.slice (some ⟨b, 0, none⟩) n cap) l.length (mvs l)) {k : Nat} (hk : k < l.length) (d : Msg) :
    (setM w b k d).ownsRow base 43 5 (.slice (some ⟨b, 0, none⟩) n cap) (l.set k d).length (mvs (l.set k d)) := by
  have e : n = l.length := by obtain ⟨a', c', e⟩ := (Row.of_own h).shape; injection e
  subst e
  have h1 := (h.stored (k * 5) (.int .i64 d.1.1)).1
  have h2 := (h1.stored (k * 5 + 1) (.int .i64 d.1.2)).1
  have h3 := (h2.stored (k * 5 + 2) (.string (bs d.2.1))).1
  have h4 := (h3.stored (k * 5 + 3) (.string (bs d.2.2.1))).1
  have h5 := (h4.stored (k * 5 + 4) (.int .i64 d.2.2.2)).1
  rw [mvs_set l k d hk] at h5
  rw [List.length_set]; exact h5
theorem grown_setM (W : World) (b k : Nat) (d : Msg) : W.grownBy (setM W b k d) (some b) :=
  grownBy_setCells b [.int .i64 d.1.1, .int .i64 d.1.2, .string (bs d.2.1), .string (bs d.2.2.1), .int .i64 d.2.2.2] (k * 5) W
/-- The row is cut to its first i; what lies behind is written over. -/
theorem own_cut_m {w : World} {base g n cap : Nat} {L : List Msg} (h : w.ownsRow base 43 5 (.slice (some ⟨g, 0, none⟩) n cap) L.length (mvs L)) {i : Nat} (hi : i ≤ L.length) (vs : List Value) :
    (w.setCells g (i * 5) vs).ownsRow base 43 5 (.slice (some ⟨g, 0, none⟩) i cap) (L.take i).length (mvs (L.take i)) := by
  have hlen : (L.take i).length = i := by rw [List.length_take]; omega
  obtain ⟨hl, ⟨e, h0⟩ | ⟨g', cap', cur, e, hb, hg, h1, h2, h3, h4⟩⟩ := h
  · cases e
  · cases e
    refine ⟨by rw [mvs_len], .inr ⟨g, cap, _, by rw [hlen], hb, block_setCells vs (i * 5) w cur hg, by omega, h2, by rw [size_setMany, h3], ?_⟩⟩
    rw [hlen, setMany_take _ _ _ _ (Nat.le_refl _), mvs_take, ← h4, List.take_take, Nat.min_eq_left (Nat.mul_le_mul_right 5 hi)]
end Go.Proofs.YtdlpnhfgjficgaaGreat

namespace Go.Proofs.YtdlpnhfgjficgaaGreat
open Go.RowKit Go.Maps Go.Shelf Go.Sort

/-- i are kept, r are read. -/
structure DmI (base : Nat) (l : List Msg) (p : Msg → Bool) (v : Value) (w : World) (i r : Nat) (L : List Msg) (W : World) : Prop where
  lt : i < r
  len : L.length = l.length
  own : W.ownsRow base 43 5 v L.length (mvs L)
  grown : w.grownBy W v.ownBlock
  low : (l.take r).filter (fun d => !p d) = L.take i
  high : ∀ j, r ≤ j → L.getD j m0 = l.getD j m0
theorem DmI.start {base : Nat} {l : List Msg} {p : Msg → Bool} {v : Value} {w W : World} {k : Nat} (h : W.ownsRow base 43 5 v l.length (mvs l)) (hg : w.grownBy W v.ownBlock) (hk : k < l.length) (hn : ∀ d ∈ l.take k, p d = false) (hp : p (l.getD k m0) = true) : DmI base l p v w k (k + 1) l W :=
  ⟨by omega, rfl, h, hg, by
    rw [take_succ_m l k hk, List.filter_append, List.filter_eq_self.2 (fun d hd => by rw [hn d hd]; rfl)]
    simp only [List.filter_cons, hp]; simp, fun _ _ => rfl⟩
theorem DmI.pure {base : Nat} {l : List Msg} {p : Msg → Bool} {v : Value} {w : World} {i r : Nat} {L : List Msg} {W W' : World} (h : DmI base l p v w i r L W) (hp : Pure W W') : DmI base l p v w i r L W' := ⟨h.lt, h.len, own_pure h.own hp, grown_trans h.grown (grown_of_pure _ hp), h.low, h.high⟩
theorem DmI.skip {base : Nat} {l : List Msg} {p : Msg → Bool} {v : Value} {w : World} {i r : Nat} {L : List Msg} {W : World} (h : DmI base l p v w i r L W) (hr : r < l.length) (e : p (l.getD r m0) = true) : DmI base l p v w i (r + 1) L W :=
  ⟨by have := h.lt; omega, h.len, h.own, h.grown, by rw [take_succ_m l r hr, List.filter_append, h.low]; simp only [List.filter_cons, e]; simp, fun j hj => h.high j (by omega)⟩
theorem DmI.keep {base g n cap : Nat} {l : List Msg} {p : Msg → Bool} {w : World} {i r : Nat} {L : List Msg} {W : World} (h : DmI base l p (.slice (some ⟨g, 0, none⟩) n cap) w i r L W) (hr : r < l.length) (d : Msg) (hd : l.getD r m0 = d) (e : p d = false) :
    DmI base l p (.slice (some ⟨g, 0, none⟩) n cap) w (i + 1) (r + 1) (L.set i d) (setM W g i d) := by
  have hlt := h.lt
  have hlen := h.len
  have hi : i < L.length := by omega
  refine ⟨by omega, by rw [List.length_set, hlen], own_set_m h.own hi d, ?_, ?_, fun j hj => ?_⟩
  · exact grown_trans h.grown (grown_setM W g i d)
  · rw [take_succ_m l r hr, List.filter_append, h.low, hd, List.take_set, List.take_succ_eq_append_getElem hi]
    rw [List.set_append_right _ _ (by rw [List.length_take]; omega)]
    simp [Nat.min_eq_left (Nat.le_of_lt hi), e]
  · rw [← h.high j (by omega)]
    simp only [List.getD]
    rw [List.getElem?_set_ne (by omega)]
def DmP (base : Nat) (v : Value) (l : List Msg) (p : Msg → Bool) (w : World) (e : Ending) (w' : World) : Prop := ∃ v', e = .returned v' ∧ w'.ownsRow base 43 5 v' (l.filter fun d => !p d).length (mvs (l.filter fun d => !p d)) ∧ w.grownBy w' v.ownBlock
theorem DmI.done {base g n cap : Nat} {l : List Msg} {p : Msg → Bool} {w : World} {i : Nat} {L : List Msg} {W : World} (h : DmI base l p (.slice (some ⟨g, 0, none⟩) n cap) w i l.length L W) (vs : List Value) :
    DmP base (.slice (some ⟨g, 0, none⟩) n cap) l p w (.returned (.slice (some ⟨g, 0, none⟩) i cap)) (W.setCells g (i * 5) vs) := by
  have hl := h.low
  rw [List.take_length] at hl
  refine ⟨_, rfl, ?_, grown_trans h.grown (grownBy_setCells g vs (i * 5) W)⟩
  rw [hl]
  exact own_cut_m h.own (i := i) (by rw [h.len]; exact Nat.le_of_lt h.lt) vs
end Go.Proofs.YtdlpnhfgjficgaaGreat

