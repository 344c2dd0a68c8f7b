/- The plain law of ClaimCounts. No program is named here. -/
import Derived.Test.YtffafdkjgllpcaaOneWalk
namespace Go.Proofs.Ytffafdkjgllpcaa
open Go.RowKit Go.Maps

/-- What a claim is by its counts. -/
def wantOf (K a b : Nat) : Int := if K / 2 + 1 ≤ a then 1 else if K - b < K / 2 + 1 then 2 else 0
theorem want_go (K a b : Nat) (hb : b ≤ K) : wantOf K a b = if (K : Int) < 2 * (a : Int) then 1 else if 2 * ((K : Int) - (b : Int)) ≤ (K : Int) then 2 else 0 := by
  unfold wantOf
  by_cases h : K / 2 + 1 ≤ a
  · have e1 : (K : Int) < 2 * (a : Int) := by omega
    rw [if_pos h, if_pos e1]
  · have e1 : ¬ (K : Int) < 2 * (a : Int) := by omega
    by_cases h2 : K - b < K / 2 + 1
    · have e2 : 2 * ((K : Int) - (b : Int)) ≤ (K : Int) := by omega
      rw [if_neg h, if_neg e1, if_pos h2, if_pos e2]
    · have e2 : ¬ 2 * ((K : Int) - (b : Int)) ≤ (K : Int) := by omega
      rw [if_neg h, if_neg e1, if_neg h2, if_neg e2]

theorem saidL_put (m : List (Int × Bool)) (x : Int) (y z : Bool) (hm : mlook m x = none) : ∀ l : List Int, l.Nodup → (saidL (mput m x y) z l).length = (saidL m z l).length + if x ∈ l ∧ y = z then 1 else 0
  | [], _ => by simp [saidL]
  | o :: l, h => by
    obtain ⟨h1, h2⟩ := List.nodup_cons.1 h
    have ih := saidL_put m x y z hm l h2
    unfold saidL at *
    rw [List.filter_cons, List.filter_cons, mlook_mput]
    by_cases e : o = x
    · subst e
      rw [if_pos rfl, hm]
      have : ¬ (o ∈ l ∧ y = z) := fun h => h1 h.1
      rw [if_neg this] at ih
      by_cases hy : y = z
      · subst hy; simp; exact ih
      · have : ((some y == some z) : Bool) = false := by simp [hy]
        simp [this, hy]; exact ih
    · have e' : ¬ x = o := fun h => e h.symm
      rw [if_neg e]
      by_cases hl : mlook m o = some z <;> simp [hl, e', ih] <;> omega

/-- The law's own counts beside the claim. -/
structure Beside (K : Nat) (c : CM) (S : List Bool) (a b : Nat) : Prop where
  owners : c.owners = from_ 0 K
  slen : S.length = 9
  said : ∀ i, i < K → S.getD i false = (mlook c.said (i : Int)).isSome
  yes : a = (saidL c.said true c.owners).length
  no : b = (saidL c.said false c.owners).length
  state : c.state = wantOf K a b

theorem mlook_nil (x : Int) : mlook ([] : List (Int × Bool)) x = none := rfl
theorem saidL_nil (z : Bool) (l : List Int) : saidL [] z l = [] := by
  unfold saidL
  refine List.filter_eq_nil_iff.2 fun x _ => ?_
  rw [mlook_nil]; simp
theorem beside_start {K : Nat} (c : CM) (h1 : c.owners = from_ 0 K) (h2 : c.said = []) (h3 : c.state = 0) (hK : 1 ≤ K) (hK2 : K ≤ 9) : Beside K c (List.replicate 9 false) 0 0 := by
  refine ⟨h1, by simp, fun i hi => ?_, by rw [h2, saidL_nil]; rfl, by rw [h2, saidL_nil]; rfl, ?_⟩
  · rw [h2, mlook_nil]
    have : i = 0 ∨ i = 1 ∨ i = 2 ∨ i = 3 ∨ i = 4 ∨ i = 5 ∨ i = 6 ∨ i = 7 ∨ i = 8 := by omega
    rcases this with rfl | rfl | rfl | rfl | rfl | rfl | rfl | rfl | rfl <;> rfl
  · rw [h3]; unfold wantOf; rw [if_neg (by omega), if_neg (by omega)]
theorem beside_le {K : Nat} {c : CM} {S : List Bool} {a b : Nat} (h : Beside K c S a b) : a ≤ K ∧ b ≤ K := by
  have h1 := saidL_len c.said true c.owners
  have h2 := saidL_len c.said false c.owners
  have e : c.owners.length = K := by rw [h.owners, from_len]
  have := h.yes; have := h.no; omega
theorem beside_counts {K : Nat} {c : CM} {S : List Bool} {a b : Nat} (h : Beside K c S a b) {i : Nat} (hi : i < K) : c.counts (i : Int) = (decide (c.state = 0) && !(S.getD i false)) := by
  have hm : (i : Int) ∈ c.owners := by rw [h.owners]; have := mem_from 0 K i hi; simpa using this
  unfold CM.counts
  rw [h.said i hi]
  cases mlook c.said (i : Int) <;> simp [hm]
theorem beside_same {K : Nat} {c : CM} {S : List Bool} {a b : Nat} (h : Beside K c S a b) {i : Nat} (y : Bool) (hc : c.counts (i : Int) = false) : Beside K (c.answer i y) S a b := by
  have : c.answer i y = c := by unfold CM.answer; rw [hc]; simp
  rw [this]; exact h
theorem beside_step {K : Nat} {c : CM} {S : List Bool} {a b : Nat} (h : Beside K c S a b) {i : Nat} (hi : i < K) (hK : K ≤ 9) (y : Bool) (hc : c.counts (i : Int) = true) :
    Beside K (c.answer i y) (S.set i true) (if y then a + 1 else a) (if y then b else b + 1) := by
  have hm : (i : Int) ∈ c.owners := by rw [h.owners]; have := mem_from 0 K i hi; simpa using this
  have hn : mlook c.said (i : Int) = none := by simp [CM.counts] at hc; exact hc.2
  have h0 : c.state = 0 := by simp [CM.counts] at hc; exact hc.1.1
  have hnd : c.owners.Nodup := by rw [h.owners]; exact from_nodup 0 K
  have hl : c.owners.length = K := by rw [h.owners, from_len]
  have e1 := saidL_put c.said i y true hn c.owners hnd
  have e2 := saidL_put c.said i y false hn c.owners hnd
  have hy := h.yes
  have hno := h.no
  have ha : c.answer i y = c.count i y := by unfold CM.answer; rw [hc]; simp
  rw [ha]
  refine ⟨h.owners, by simp [h.slen], fun j hj => ?_, ?_, ?_, ?_⟩
  · show (S.set i true).getD j false = (mlook (mput c.said i y) (j : Int)).isSome
    rw [mlook_mput]
    by_cases e : j = i
    · subst e; simp [List.getD, h.slen, show j < 9 by omega]
    · have e' : ¬ ((j : Int) = (i : Int)) := by omega
      rw [if_neg e', ← h.said j hj]
      have e3 : ¬ i = j := fun h => e h.symm
      simp [List.getD, e3]
  · show _ = (saidL (mput c.said i y) true c.owners).length
    rw [e1, ← hy]; cases y <;> simp [hm]
  · show _ = (saidL (mput c.said i y) false c.owners).length
    rw [e2, ← hno]; cases y <;> simp [hm]
  · show (CM.count c i y).state = _
    unfold CM.count wantOf
    dsimp only
    rw [hl, e1, e2, ← hy, ← hno, h0]
    cases y <;> simp [hm]
end Go.Proofs.Ytffafdkjgllpcaa
