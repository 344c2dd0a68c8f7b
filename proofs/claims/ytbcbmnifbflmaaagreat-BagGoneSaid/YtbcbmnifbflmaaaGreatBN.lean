/- What a removal leaves, and what joins with it have: plain words (BagLess, BagGone). -/
import Derived.Test.YtbcbmnifbflmaaaGreatJM
import Derived.Test.YtbcbmnifbflmaaaGreatMSa
namespace Go.Proofs.YtbcbmnifbflmaaaGreat
open Go.RowKit Go.Maps

theorem lget_filter (l : List Msg) (d e : Dot) : lget (l.filter fun m => !decide (m.1 = d)) e = if e = d then none else lget l e := by
  induction l with
  | nil => simp [lget]
  | cons m r ih =>
    by_cases h : m.1 = d
    · rw [List.filter_cons_of_neg (by simp [h]), ih]
      by_cases he : e = d
      · rw [if_pos he, if_pos he]
      · rw [if_neg he, if_neg he]
        show lget r e = lget (m :: r) e
        rw [lget_cons, if_neg (by rw [h]; exact fun x => he x.symm)]
    · rw [List.filter_cons_of_pos (by simp [h]), lget_cons, ih, lget_cons]
      by_cases he : e = d
      · subst he; rw [if_neg h, if_pos rfl]; simp
      · rw [if_neg he, if_neg he]
theorem lget_remove (g : Bag) (d e : Dot) : lget (bremove g d).1 e = if e = d then none else lget g.1 e := lget_filter g.1 d e
theorem has_remove {U : List Dot} {g : Bag} (h : BOk U g) {d : Dot} (hd : dchk d = true) (e : Dot) : chas (bremove g d).2.1 (bremove g d).2.2 e = (chas g.2.1 g.2.2 e || decide (e = d)) := by
  show chas (Ad g.2 [d]).1 (Ad g.2 [d]).2 e = _
  rw [Ad.has h.ok]
  congr 1
  by_cases he : e = d
  · subst he; simp [hd]
  · simp [he]
theorem remove_join {U : List Dot} {g : Bag} (h : BOk U g) {d : Dot} (hU : d ∈ U) (hd : dchk d = true) : bjoin (bremove g d) g = bremove g d :=
  bag_ext_get ((h.remove hU).join h) (h.remove hU) (fun e => by rw [bjoin_has (h.remove hU) h, has_remove h hd]; cases chas g.2.1 g.2.2 e <;> simp) (fun e => by
    rw [bjoin_get (h.remove hU) h, lget_remove, has_remove h hd]
    by_cases he : e = d
    · rw [if_pos he, decide_eq_true he, Bool.or_true]
      unfold jof
      cases lget g.1 e <;> rfl
    · rw [if_neg he]
      unfold jof
      cases lget g.1 e with
      | none => rfl
      | some m => simp [bothM_self])
theorem remove_len (l : List Msg) (h : MD l) (d : Dot) : (l.filter fun m => !decide (m.1 = d)).length + (if (lget l d).isSome then 1 else 0) = l.length := by
  induction l with
  | nil => simp [lget]
  | cons m r ih =>
    have hr : MD r := List.Pairwise.of_cons h
    have hm := fun x hx => List.rel_of_pairwise_cons h (a' := x) hx
    by_cases he : m.1 = d
    · rw [List.filter_cons_of_neg (by simp [he]), lget_cons, if_pos he]
      rw [List.filter_eq_self.2 (fun x hx => by have := hm x hx; rw [he] at this; simp; exact fun e => this e.symm)]
      simp
    · rw [List.filter_cons_of_pos (by simp [he]), lget_cons, if_neg he, List.length_cons, List.length_cons]
      have := ih hr
      omega
/-- What is removed is there in no join. -/
theorem gone_left {U : List Dot} {g h : Bag} (hg : BOk U g) (hh : BOk U h) {d : Dot} (h1 : chas g.2.1 g.2.2 d = true) (h2 : lget g.1 d = none) : lget (bjoin g h).1 d = none := by
  rw [bjoin_get hg hh, h1, h2]
  unfold jof
  cases lget h.1 d <;> rfl
theorem gone_right {U : List Dot} {g h : Bag} (hg : BOk U g) (hh : BOk U h) {d : Dot} (h1 : chas h.2.1 h.2.2 d = true) (h2 : lget h.1 d = none) : lget (bjoin g h).1 d = none := by
  rw [bjoin_comm hg hh]
  exact gone_left hh hg h1 h2
/-- What is only put stays. -/
theorem put_stays {U : List Dot} {g h : Bag} (hg : BOk U g) (hh : BOk U h) {m : Msg} (hm : m ∈ g.1) :
    (lget (bjoin g h).1 m.1).isSome = (!chas h.2.1 h.2.2 m.1 || (lget h.1 m.1).isSome) ∧ ∀ x, lget (bjoin g h).1 m.1 = some x → m.2.2.2 ≤ x.2.2.2 := by
  have hgm := (MR.get hg.r).1 hm
  have hs := fun o (e : lget h.1 m.1 = some o) => hh.get_seen e
  rw [bjoin_get hg hh, hgm, hg.seen m hm]
  unfold jof
  cases e : lget h.1 m.1 with
  | none =>
    cases chas h.2.1 h.2.2 m.1
    · refine ⟨rfl, fun x hx => ?_⟩
      simp at hx; subst hx; exact Int.le_refl _
    · exact ⟨rfl, fun x hx => by simp at hx⟩
  | some o =>
    refine ⟨by simp, fun x hx => ?_⟩
    simp at hx
    subst hx
    unfold bothM
    split
    · exact Int.le_max_left _ _
    · exact Int.le_max_left _ _
end Go.Proofs.YtbcbmnifbflmaaaGreat
