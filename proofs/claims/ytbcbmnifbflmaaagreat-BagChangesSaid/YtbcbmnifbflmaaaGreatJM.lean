/- Bags joined, in plain words. -/
import Derived.Test.YtbcbmnifbflmaaaGreatMSa
import Derived.Lib.Bytealg
import Derived.Sort.Walk0
namespace Go.Proofs.YtbcbmnifbflmaaaGreat
open Go.RowKit Go.Maps Go.Shelf Go.Sort

/-! ### texts by their bytes -/
def tlt (a b : List UInt8) : Bool := Op.bytesLess a b
theorem tlt_nil_r (a : List UInt8) : tlt a [] = false := by cases a <;> rfl
theorem tlt_nil_l (b : UInt8) (s : List UInt8) : tlt [] (b :: s) = true := rfl
theorem tlt_cons (a b : UInt8) (r s : List UInt8) : tlt (a :: r) (b :: s) = (decide (a < b) || (a == b && tlt r s)) := rfl
theorem tlt_irrefl : ∀ a, tlt a a = false
  | [] => rfl
  | a :: r => by rw [tlt_cons, tlt_irrefl r]; simp
theorem tlt_trans : ∀ a b c, tlt a b = true → tlt b c = true → tlt a c = true
  | _, [], _, h, _ => by rw [tlt_nil_r] at h; cases h
  | _, _ :: _, [], _, h => by rw [tlt_nil_r] at h; cases h
  | [], _ :: _, _ :: _, _, _ => rfl
  | a :: r, b :: s, c :: t, h1, h2 => by
    rw [tlt_cons] at *
    simp only [Bool.or_eq_true, decide_eq_true_eq, Bool.and_eq_true, beq_iff_eq] at *
    rcases h1 with h1 | ⟨rfl, h1⟩ <;> rcases h2 with h2 | ⟨rfl, h2⟩
    · exact .inl (UInt8.lt_trans h1 h2)
    · exact .inl h1
    · exact .inl h2
    · exact .inr ⟨rfl, tlt_trans r s t h1 h2⟩
theorem tlt_total : ∀ a b, tlt a b = false → tlt b a = false → a = b
  | [], [], _, _ => rfl
  | [], _ :: _, h, _ => by cases h
  | _ :: _, [], _, h => by cases h
  | a :: r, b :: s, h1, h2 => by
    rw [tlt_cons] at *
    simp only [Bool.or_eq_false_iff, decide_eq_false_iff_not, Bool.and_eq_false_iff, beq_eq_false_iff_ne, ne_eq] at *
    have e : a = b := UInt8.le_antisymm (UInt8.not_lt.1 h2.1) (UInt8.not_lt.1 h1.1)
    subst e
    rw [tlt_total r s (h1.2.resolve_left (fun h => h rfl)) (h2.2.resolve_left (fun h => h rfl))]
theorem tlt_cmp : ∀ a b, tlt a b = decide (Lib.compareBytes a b < 0)
  | [], [] => rfl
  | [], _ :: _ => rfl
  | _ :: _, [] => rfl
  | a :: r, b :: s => by
    have ih := tlt_cmp r s
    have e : Lib.compareBytes (a :: r) (b :: s) = if a < b then -1 else if b < a then 1 else Lib.compareBytes r s := by rw [Lib.compareBytes]
    rw [tlt_cons, ih, e]
    by_cases h1 : a < b
    · simp [h1]
    · by_cases h2 : b < a
      · have : ¬ a = b := fun e => by subst e; exact h1 h2
        simp [h1, h2, this]
      · have : a = b := UInt8.le_antisymm (UInt8.not_lt.1 h2) (UInt8.not_lt.1 h1)
        subst this
        simp [h1]

/-! ### two messages of one name, together -/
/-- Is what m says before what n says? -/
def qlt (m n : Msg) : Bool := tlt m.2.1 n.2.1 || (decide (m.2.1 = n.2.1) && tlt m.2.2.1 n.2.2.1)
theorem qlt_iff {m n : Msg} : qlt m n = true ↔ tlt m.2.1 n.2.1 = true ∨ (m.2.1 = n.2.1 ∧ tlt m.2.2.1 n.2.2.1 = true) := by
  unfold qlt; rw [Bool.or_eq_true, Bool.and_eq_true, decide_eq_true_eq]
theorem qlt_irrefl (m : Msg) : qlt m m = false := by unfold qlt; rw [tlt_irrefl, tlt_irrefl]; simp
theorem qlt_trans {a b c : Msg} (h1 : qlt a b = true) (h2 : qlt b c = true) : qlt a c = true := by
  rw [qlt_iff] at *
  rcases h1 with h1 | ⟨e1, h1⟩ <;> rcases h2 with h2 | ⟨e2, h2⟩
  · exact .inl (tlt_trans _ _ _ h1 h2)
  · exact .inl (e2 ▸ h1)
  · exact .inl (e1.symm ▸ h2)
  · exact .inr ⟨e1.trans e2, tlt_trans _ _ _ h1 h2⟩
theorem qlt_total {a b : Msg} (h1 : qlt a b = false) (h2 : qlt b a = false) : a.2.1 = b.2.1 ∧ a.2.2.1 = b.2.2.1 := by
  unfold qlt at *
  simp only [Bool.or_eq_false_iff, Bool.and_eq_false_iff, decide_eq_false_iff_not] at *
  have e := tlt_total _ _ h1.1 h2.1
  exact ⟨e, tlt_total _ _ (h1.2.resolve_left (fun h => h e)) (h2.2.resolve_left (fun h => h e.symm))⟩
def bothM (a b : Msg) : Msg := if qlt b a then (b.1, b.2.1, b.2.2.1, max a.2.2.2 b.2.2.2) else (a.1, a.2.1, a.2.2.1, max a.2.2.2 b.2.2.2)
theorem bothM_name {a b : Msg} (h : a.1 = b.1) : (bothM a b).1 = a.1 := by unfold bothM; split <;> simp [h]
theorem bothM_self (a : Msg) : bothM a a = a := by unfold bothM; rw [qlt_irrefl]; simp
theorem bothM_comm {a b : Msg} (h : a.1 = b.1) : bothM a b = bothM b a := by
  unfold bothM
  cases h1 : qlt b a <;> cases h2 : qlt a b
  · obtain ⟨e1, e2⟩ := qlt_total h1 h2
    simp [h, e1, e2, Int.max_comm]
  · simp [Int.max_comm]
  · simp [Int.max_comm]
  · have := qlt_trans h1 h2
    rw [qlt_irrefl] at this; cases this
/-- What a message says, but for its count. -/
theorem qlt_both_l (a b c : Msg) : qlt c (bothM a b) = if qlt b a then qlt c b else qlt c a := by unfold bothM; split <;> rfl
theorem qlt_both_r (a b c : Msg) : qlt (bothM b c) a = if qlt c b then qlt c a else qlt b a := by unfold bothM; split <;> rfl
theorem bothM_assoc (a b c : Msg) : bothM (bothM a b) c = bothM a (bothM b c) := by
  have e1 := qlt_both_l a b c
  have e2 := qlt_both_r a b c
  have key : ∀ x y : Msg, bothM x y = (if qlt y x then (y.1, y.2.1, y.2.2.1, max x.2.2.2 y.2.2.2) else (x.1, x.2.1, x.2.2.1, max x.2.2.2 y.2.2.2)) := fun _ _ => rfl
  rw [key (bothM a b) c, key a (bothM b c), e1, e2, key a b, key b c]
  cases hba : qlt b a <;> cases hcb : qlt c b <;> cases hca : qlt c a <;> simp [Int.max_assoc]
  · have h3 : qlt a b = false ∨ qlt a b = true := by cases qlt a b <;> simp
    rcases h3 with h3 | h3
    · obtain ⟨e3, e4⟩ := qlt_total hba h3
      have : qlt c a = qlt c b := by unfold qlt; rw [e3, e4]
      rw [this, hcb] at hca; cases hca
    · cases hcase : qlt b c
      · obtain ⟨e3, e4⟩ := qlt_total hcb hcase
        have : qlt c a = qlt b a := by unfold qlt; rw [e3, e4]
        rw [this, hba] at hca; cases hca
      · have := qlt_trans hca (qlt_trans h3 hcase)
        rw [qlt_irrefl] at this; cases this
  · have := qlt_trans hcb hba
    rw [this] at hca; cases hca
theorem bothM_may {a b : Msg} (ha : mmay a = true) (hb : mmay b = true) : mmay (bothM a b) = true := by
  unfold mmay bothM at *
  simp only [Bool.and_eq_true, decide_eq_true_eq] at *
  obtain ⟨⟨⟨⟨⟨a1, a2⟩, a3⟩, a4⟩, a5⟩, a6⟩ := ha
  obtain ⟨⟨⟨⟨⟨b1, b2⟩, b3⟩, b4⟩, b5⟩, b6⟩ := hb
  split <;> dsimp only
  · exact ⟨⟨⟨⟨⟨b1, b2⟩, b3⟩, b4⟩, by omega⟩, by omega⟩
  · exact ⟨⟨⟨⟨⟨a1, a2⟩, a3⟩, a4⟩, by omega⟩, by omega⟩

/-! ### a bag's message by its name -/
def lget (l : List Msg) (d : Dot) : Option Msg := l.find? fun m => decide (m.1 = d)
theorem lget_some {l : List Msg} {d : Dot} {m : Msg} (h : lget l d = some m) : m ∈ l ∧ m.1 = d := by
  have h1 := List.mem_of_find?_eq_some h
  have h2 := List.find?_some h
  exact ⟨h1, by simpa using h2⟩
theorem lget_none {l : List Msg} {d : Dot} : lget l d = none ↔ ∀ m ∈ l, m.1 ≠ d := by
  unfold lget; rw [List.find?_eq_none]; simp
theorem MR.get {l : List Msg} (h : MR l) {m : Msg} : m ∈ l ↔ lget l m.1 = some m := by
  constructor
  · intro hm
    cases e : lget l m.1 with
    | none => exact absurd rfl (lget_none.1 e m hm)
    | some x =>
      obtain ⟨h1, h2⟩ := lget_some e
      rw [h.one h1 hm h2]
  · intro e; exact (lget_some e).1
theorem mr_ext {l k : List Msg} (hl : MR l) (hk : MR k) (h : ∀ d, lget l d = lget k d) : l = k :=
  mr_eq hl hk (fun d => by rw [hl.get, hk.get, h])
def jof (a : Option Msg) (ca : Bool) (b : Option Msg) (cb : Bool) : Option Msg :=
  match a, b with
  | some x, some y => some (bothM x y)
  | some x, none => if cb then none else some x
  | none, some y => if ca then none else some y
  | none, none => none
/-- The messages of both, in whatever order. -/
def jl1 (l k : List Msg) (ck : Dot → Bool) : List Msg := l.flatMap fun m => match lget k m.1 with
  | some o => [bothM m o]
  | none => if ck m.1 then [] else [m]
def jl2 (k : List Msg) (cl : Dot → Bool) : List Msg := k.filter fun m => !cl m.1
def bjoin (g h : Bag) : Bag := (msort (jl1 g.1 h.1 (chas h.2.1 h.2.2) ++ jl2 h.1 (chas g.2.1 g.2.2)), Jn g.2 h.2)
theorem jl1_mem {l k : List Msg} {ck : Dot → Bool} {m : Msg} : m ∈ jl1 l k ck ↔ ∃ a ∈ l, (∃ o, lget k a.1 = some o ∧ m = bothM a o) ∨ (lget k a.1 = none ∧ ck a.1 = false ∧ m = a) := by
  unfold jl1
  rw [List.mem_flatMap]
  refine exists_congr fun a => and_congr_right fun _ => ?_
  cases e : lget k a.1 with
  | some o => simp
  | none => by_cases hc : ck a.1 = true <;> simp [hc]
theorem jl1_name {l k : List Msg} {ck : Dot → Bool} {m : Msg} (h : m ∈ jl1 l k ck) : ∃ a ∈ l, m.1 = a.1 := by
  obtain ⟨a, ha, ⟨o, h1, rfl⟩ | ⟨_, _, rfl⟩⟩ := jl1_mem.1 h
  · exact ⟨a, ha, bothM_name (lget_some h1).2.symm⟩
  · exact ⟨_, ha, rfl⟩
theorem jl1_md {l : List Msg} (k : List Msg) (ck : Dot → Bool) (h : MD l) : MD (jl1 l k ck) := by
  induction l with
  | nil => exact List.Pairwise.nil
  | cons a l ih =>
    obtain ⟨h1, h2⟩ := List.pairwise_cons.1 h
    have e : jl1 (a :: l) k ck = jl1 [a] k ck ++ jl1 l k ck := by simp [jl1]
    have e1 : (jl1 [a] k ck).length ≤ 1 := by
      unfold jl1
      simp only [List.flatMap_cons, List.flatMap_nil, List.append_nil]
      split
      · simp
      · split <;> simp
    rw [e]
    unfold MD
    rw [List.pairwise_append]
    refine ⟨?_, ih h2, fun x hx y hy he => ?_⟩
    · match jl1 [a] k ck, e1 with
      | [], _ => exact List.Pairwise.nil
      | [x], _ => exact List.pairwise_singleton _ _
    · obtain ⟨a', ha', e2⟩ := jl1_name hx
      obtain ⟨b', hb', e3⟩ := jl1_name hy
      simp only [List.mem_singleton] at ha'
      subst ha'
      exact h1 b' hb' (by rw [← e2, ← e3]; exact he)
theorem BOk.md {U V : List Dot} {g h : Bag} (hg : BOk U g) (hh : BOk V h) : MD (jl1 g.1 h.1 (chas h.2.1 h.2.2) ++ jl2 h.1 (chas g.2.1 g.2.2)) := by
  unfold MD
  rw [List.pairwise_append]
  refine ⟨jl1_md _ _ hg.r.md, List.Pairwise.sublist List.filter_sublist hh.r.md, fun x hx y hy e => ?_⟩
  obtain ⟨a, ha, e1⟩ := jl1_name hx
  have h1 := (List.mem_filter.1 hy).2
  have h2 := hg.seen a ha
  rw [← e1, e] at h2
  rw [h2] at h1; cases h1
theorem md_get {l : List Msg} (h : MD l) {m : Msg} : m ∈ l ↔ lget l m.1 = some m := by
  constructor
  · intro hm
    cases e : lget l m.1 with
    | none => exact absurd rfl (lget_none.1 e m hm)
    | some x =>
      obtain ⟨h1, h2⟩ := lget_some e
      rw [h.one h1 hm h2]
  · intro e; exact (lget_some e).1
theorem lget_msort {l : List Msg} (h : MD l) (d : Dot) : lget (msort l) d = lget l d := by
  cases e : lget l d with
  | none =>
    rw [lget_none] at e ⊢
    exact fun m hm => e m ((msort_mem l m).1 hm)
  | some x =>
    obtain ⟨h1, rfl⟩ := lget_some e
    exact (msort_rise h).get.1 ((msort_mem l x).2 h1)
theorem lget_append (l k : List Msg) (d : Dot) : lget (l ++ k) d = (lget l d).or (lget k d) := by unfold lget; rw [List.find?_append]
theorem lget_jl1 (k : List Msg) (ck : Dot → Bool) (d : Dot) : ∀ l : List Msg, MD l → lget (jl1 l k ck) d = match lget l d with
    | none => none
    | some a => match lget k d with
      | some o => some (bothM a o)
      | none => if ck d then none else some a
  | [], _ => rfl
  | a :: l, h => by
    obtain ⟨h1, h2⟩ := List.pairwise_cons.1 h
    have ih := lget_jl1 k ck d l h2
    have e : jl1 (a :: l) k ck = jl1 [a] k ck ++ jl1 l k ck := by simp [jl1]
    rw [e, lget_append]
    by_cases hd : a.1 = d
    · have e0 : lget (a :: l) d = some a := by simp [lget, hd]
      have en : lget (jl1 l k ck) d = none := by
        rw [lget_none]
        intro m hm em
        obtain ⟨b, hb, e2⟩ := jl1_name hm
        exact h1 b hb (by rw [hd, ← em, e2])
      rw [e0, en]
      subst hd
      dsimp only
      unfold jl1
      simp only [List.flatMap_cons, List.flatMap_nil, List.append_nil]
      cases eo : lget k a.1 with
      | some o => simp [lget, bothM_name (lget_some eo).2.symm]
      | none =>
        by_cases hc : ck a.1 = true
        · simp [lget, hc]
        · simp [lget, hc]
    · have e0 : lget (a :: l) d = lget l d := by simp [lget, hd]
      have en : lget (jl1 [a] k ck) d = none := by
        rw [lget_none]
        intro m hm em
        obtain ⟨b, hb, e2⟩ := jl1_name hm
        simp only [List.mem_singleton] at hb
        subst hb
        exact hd (by rw [← e2, em])
      rw [e0, en, ih]; rfl
theorem lget_jl2 (k : List Msg) (cl : Dot → Bool) (d : Dot) : lget (jl2 k cl) d = if cl d then none else lget k d := by
  unfold jl2 lget
  rw [List.find?_filter]
  by_cases hc : cl d = true
  · rw [if_pos hc, List.find?_eq_none]
    intro m _ h
    simp only [Bool.and_eq_true, Bool.not_eq_true', decide_eq_true_eq, Bool.decide_and] at h
    obtain ⟨h1, h2⟩ := h
    rw [h2, hc] at h1; cases h1
  · rw [if_neg hc]
    congr 1
    funext m
    by_cases hm : m.1 = d
    · simp [hm, hc]
    · simp [hm]
theorem BOk.get_seen {U : List Dot} {g : Bag} (h : BOk U g) {d : Dot} {m : Msg} (e : lget g.1 d = some m) : chas g.2.1 g.2.2 d = true := by
  obtain ⟨h1, rfl⟩ := lget_some e
  exact h.seen m h1
theorem bjoin_get {U V : List Dot} {g h : Bag} (hg : BOk U g) (hh : BOk V h) (d : Dot) : lget (bjoin g h).1 d = jof (lget g.1 d) (chas g.2.1 g.2.2 d) (lget h.1 d) (chas h.2.1 h.2.2 d) := by
  unfold bjoin
  dsimp only
  rw [lget_msort (hg.md hh), lget_append, lget_jl1 _ _ _ _ hg.r.md, lget_jl2]
  unfold jof
  cases e1 : lget g.1 d with
  | none =>
    cases e2 : lget h.1 d with
    | none => simp
    | some y => simp
  | some x =>
    have hs := hg.get_seen e1
    cases e2 : lget h.1 d with
    | none =>
      by_cases hc : chas h.2.1 h.2.2 d = true <;> simp [hc, hs]
    | some y => simp [hs]
theorem bjoin_has {U V : List Dot} {g h : Bag} (hg : BOk U g) (hh : BOk V h) (d : Dot) : chas (bjoin g h).2.1 (bjoin g h).2.2 d = (chas g.2.1 g.2.2 d || chas h.2.1 h.2.2 d) := Jn.has hg.ok hh.ok d
theorem BOk.join {U : List Dot} {g h : Bag} (hg : BOk U g) (hh : BOk U h) : BOk U (bjoin g h) := by
  have hmem : ∀ m ∈ (bjoin g h).1, (∃ a ∈ g.1, ∃ o ∈ h.1, a.1 = o.1 ∧ m = bothM a o) ∨ m ∈ g.1 ∨ m ∈ h.1 := fun m hm => by
    have hm' := (msort_mem _ m).1 hm
    rcases List.mem_append.1 hm' with hm' | hm'
    · obtain ⟨a, ha, ⟨o, h1, h2⟩ | ⟨_, _, rfl⟩⟩ := jl1_mem.1 hm'
      · exact .inl ⟨a, ha, o, (lget_some h1).1, (lget_some h1).2.symm, h2⟩
      · exact .inr (.inl ha)
    · exact .inr (.inr (List.mem_filter.1 hm').1)
  refine ⟨Jn.ok hg.ok hh.ok, msort_rise (hg.md hh), fun m hm => ?_, fun d hd => ?_, fun m hm => ?_⟩
  · rw [bjoin_has hg hh, Bool.or_eq_true]
    rcases hmem m hm with ⟨a, ha, o, ho, e, rfl⟩ | h1 | h1
    · left; rw [bothM_name e]; exact hg.seen a ha
    · exact .inl (hg.seen m h1)
    · exact .inr (hh.seen m h1)
  · rw [bjoin_has hg hh, Bool.or_eq_true] at hd
    rcases hd with hd | hd
    · exact hg.ti d hd
    · exact hh.ti d hd
  · rcases hmem m hm with ⟨a, ha, o, ho, e, rfl⟩ | h1 | h1
    · exact bothM_may (hg.may a ha) (hh.may o ho)
    · exact hg.may m h1
    · exact hh.may m h1
theorem bag_ext_get {U V : List Dot} {g h : Bag} (hg : BOk U g) (hh : BOk V h) (h1 : ∀ d, chas g.2.1 g.2.2 d = chas h.2.1 h.2.2 d) (h2 : ∀ d, lget g.1 d = lget h.1 d) : g = h :=
  Prod.ext (mr_ext hg.r hh.r h2) (ctx_eq hg.ok hh.ok h1)
theorem bjoin_self {U : List Dot} {g : Bag} (hg : BOk U g) : bjoin g g = g :=
  bag_ext_get (hg.join hg) hg (fun d => by rw [bjoin_has hg hg, Bool.or_self]) (fun d => by
    rw [bjoin_get hg hg]
    unfold jof
    cases e : lget g.1 d with
    | none => rfl
    | some x => simp [bothM_self])
theorem bjoin_comm {U : List Dot} {g h : Bag} (hg : BOk U g) (hh : BOk U h) : bjoin g h = bjoin h g :=
  bag_ext_get (hg.join hh) (hh.join hg) (fun d => by rw [bjoin_has hg hh, bjoin_has hh hg, Bool.or_comm]) (fun d => by
    rw [bjoin_get hg hh, bjoin_get hh hg]
    unfold jof
    cases e1 : lget g.1 d with
    | none => cases e2 : lget h.1 d <;> rfl
    | some x =>
      cases e2 : lget h.1 d with
      | none => rfl
      | some y => simp only; rw [bothM_comm ((lget_some e1).2.trans (lget_some e2).2.symm)])
theorem bjoin_assoc {U : List Dot} {g h i : Bag} (hg : BOk U g) (hh : BOk U h) (hi : BOk U i) : bjoin (bjoin g h) i = bjoin g (bjoin h i) :=
  bag_ext_get ((hg.join hh).join hi) (hg.join (hh.join hi)) (fun d => by rw [bjoin_has (hg.join hh) hi, bjoin_has hg hh, bjoin_has hg (hh.join hi), bjoin_has hh hi, Bool.or_assoc]) (fun d => by
    rw [bjoin_get (hg.join hh) hi, bjoin_get hg hh, bjoin_get hg (hh.join hi), bjoin_get hh hi, bjoin_has hg hh, bjoin_has hh hi]
    have s1 := fun m (e : lget g.1 d = some m) => hg.get_seen e
    have s2 := fun m (e : lget h.1 d = some m) => hh.get_seen e
    have s3 := fun m (e : lget i.1 d = some m) => hi.get_seen e
    generalize lget g.1 d = a at *
    generalize lget h.1 d = b at *
    generalize lget i.1 d = c at *
    generalize chas g.2.1 g.2.2 d = ca at *
    generalize chas h.2.1 h.2.2 d = cb at *
    generalize chas i.2.1 i.2.2 d = cc at *
    unfold jof
    cases a with
    | none =>
      cases b with
      | none => cases c <;> cases ca <;> cases cb <;> simp
      | some y =>
        have := s2 y rfl; subst this
        cases c with
        | none => cases ca <;> cases cc <;> simp
        | some z => have := s3 z rfl; subst this; cases ca <;> simp
    | some x =>
      have := s1 x rfl; subst this
      cases b with
      | none =>
        cases c with
        | none => cases cb <;> cases cc <;> simp
        | some z => have := s3 z rfl; subst this; cases cb <;> simp
      | some y =>
        have := s2 y rfl; subst this
        cases c with
        | none => cases cc <;> simp
        | some z => simp [bothM_assoc])
/-- Does one have all of the other? -/
def bcov (g h : Bag) : Bool := decide (bjoin g h = g)
theorem bcov_join {U : List Dot} {g h : Bag} (hg : BOk U g) (hh : BOk U h) : bjoin (bjoin g h) g = bjoin g h := by
  rw [bjoin_comm (hg.join hh) hg, ← bjoin_assoc hg hg hh, bjoin_self hg]
theorem bcov_join' {U : List Dot} {g h : Bag} (hg : BOk U g) (hh : BOk U h) : bjoin (bjoin g h) h = bjoin g h := by
  rw [bjoin_assoc hg hh hh, bjoin_self hh]
theorem bjoin_nil {U : List Dot} {g : Bag} (hg : BOk U g) : bjoin g ([], [], []) = g :=
  bag_ext_get (hg.join (BOk.nil U)) hg (fun d => by
    rw [bjoin_has hg (BOk.nil U)]
    have : chas ([] : List Dot) [] d = false := by
      rw [Bool.eq_false_iff]; intro h; exact absurd ((BOk.nil []).ti d h) (by simp)
    rw [this, Bool.or_false]) (fun d => by
    have : chas ([] : List Dot) [] d = false := by
      rw [Bool.eq_false_iff]; intro h; exact absurd ((BOk.nil []).ti d h) (by simp)
    rw [bjoin_get hg (BOk.nil U), this]
    unfold jof
    cases lget g.1 d <;> rfl)

/-! ### the merge of two rising rows -/
def alo (c : Dot → Bool) (m : Msg) : List Msg := if c m.1 then [] else [m]
def bmrg (cg ch : Dot → Bool) : List Msg → List Msg → List Msg
  | [], [] => []
  | a :: l, [] => alo ch a ++ bmrg cg ch l []
  | [], b :: k => alo cg b ++ bmrg cg ch [] k
  | a :: l, b :: k => if dlt a.1 b.1 then alo ch a ++ bmrg cg ch l (b :: k) else if a.1 ≠ b.1 then alo cg b ++ bmrg cg ch (a :: l) k else bothM a b :: bmrg cg ch l k
termination_by l k => l.length + k.length
theorem alo_mem {c : Dot → Bool} {a m : Msg} : m ∈ alo c a ↔ m = a ∧ c a.1 = false := by
  unfold alo; by_cases h : c a.1 = true <;> simp [h]
theorem bmrg_name (cg ch : Dot → Bool) : ∀ (l k : List Msg) (m : Msg), m ∈ bmrg cg ch l k → ∃ a, (a ∈ l ∨ a ∈ k) ∧ m.1 = a.1
  | [], [], m, h => by rw [bmrg] at h; simp at h
  | a :: l, [], m, h => by
    rw [bmrg] at h
    rcases List.mem_append.1 h with h | h
    · exact ⟨a, .inl (by simp), by rw [(alo_mem.1 h).1]⟩
    · obtain ⟨x, hx, e⟩ := bmrg_name cg ch l [] m h
      exact ⟨x, by rcases hx with hx | hx; exact .inl (List.mem_cons_of_mem _ hx); simp at hx, e⟩
  | [], b :: k, m, h => by
    rw [bmrg] at h
    rcases List.mem_append.1 h with h | h
    · exact ⟨b, .inr (by simp), by rw [(alo_mem.1 h).1]⟩
    · obtain ⟨x, hx, e⟩ := bmrg_name cg ch [] k m h
      exact ⟨x, by rcases hx with hx | hx; simp at hx; exact .inr (List.mem_cons_of_mem _ hx), e⟩
  | a :: l, b :: k, m, h => by
    rw [bmrg] at h
    split at h
    · rcases List.mem_append.1 h with h | h
      · exact ⟨a, .inl (by simp), by rw [(alo_mem.1 h).1]⟩
      · obtain ⟨x, hx, e⟩ := bmrg_name cg ch l (b :: k) m h
        exact ⟨x, by rcases hx with hx | hx; exact .inl (List.mem_cons_of_mem _ hx); exact .inr hx, e⟩
    · split at h
      · rcases List.mem_append.1 h with h | h
        · exact ⟨b, .inr (by simp), by rw [(alo_mem.1 h).1]⟩
        · obtain ⟨x, hx, e⟩ := bmrg_name cg ch (a :: l) k m h
          exact ⟨x, by rcases hx with hx | hx; exact .inl hx; exact .inr (List.mem_cons_of_mem _ hx), e⟩
      · rename_i hne
        rcases List.mem_cons.1 h with rfl | h
        · exact ⟨a, .inl (by simp), bothM_name (by simpa using hne)⟩
        · obtain ⟨x, hx, e⟩ := bmrg_name cg ch l k m h
          exact ⟨x, by rcases hx with hx | hx; exact .inl (List.mem_cons_of_mem _ hx); exact .inr (List.mem_cons_of_mem _ hx), e⟩
termination_by l k => l.length + k.length
theorem MR.cons_alo {c : Dot → Bool} {a : Msg} {l : List Msg} (h : ∀ m ∈ l, DL a.1 m.1) (hl : MR l) : MR (alo c a ++ l) := by
  unfold alo
  split
  · exact hl
  · exact List.pairwise_cons.2 ⟨h, hl⟩
theorem bmrg_rise (cg ch : Dot → Bool) : ∀ (l k : List Msg), MR l → MR k → MR (bmrg cg ch l k)
  | [], [], _, _ => by rw [bmrg]; exact List.Pairwise.nil
  | a :: l, [], h1, h2 => by
    obtain ⟨p1, p2⟩ := List.pairwise_cons.1 h1
    rw [bmrg]
    refine MR.cons_alo (fun m hm => ?_) (bmrg_rise cg ch l [] p2 h2)
    obtain ⟨x, hx, e⟩ := bmrg_name cg ch l [] m hm
    rw [e]; rcases hx with hx | hx
    · exact p1 x hx
    · simp at hx
  | [], b :: k, h1, h2 => by
    obtain ⟨p1, p2⟩ := List.pairwise_cons.1 h2
    rw [bmrg]
    refine MR.cons_alo (fun m hm => ?_) (bmrg_rise cg ch [] k h1 p2)
    obtain ⟨x, hx, e⟩ := bmrg_name cg ch [] k m hm
    rw [e]; rcases hx with hx | hx
    · simp at hx
    · exact p1 x hx
  | a :: l, b :: k, h1, h2 => by
    obtain ⟨p1, p2⟩ := List.pairwise_cons.1 h1
    obtain ⟨q1, q2⟩ := List.pairwise_cons.1 h2
    rw [bmrg]
    split
    · rename_i hlt
      rw [dlt_iff] at hlt
      refine MR.cons_alo (fun m hm => ?_) (bmrg_rise cg ch l (b :: k) p2 h2)
      obtain ⟨x, hx, e⟩ := bmrg_name cg ch l (b :: k) m hm
      rw [e]; rcases hx with hx | hx
      · exact p1 x hx
      · rcases List.mem_cons.1 hx with rfl | hx
        · exact hlt
        · exact hlt.trans (q1 x hx)
    · rename_i hlt
      have hlt' : ¬ DL a.1 b.1 := by rw [← dlt_iff]; exact hlt
      split
      · rename_i hne
        have hba : DL b.1 a.1 := by
          obtain ⟨⟨x1, x2⟩, xr⟩ := a
          obtain ⟨⟨y1, y2⟩, yr⟩ := b
          dsimp only at *
          unfold DL at *
          simp only [ne_eq, Prod.mk.injEq, not_and] at hne
          dsimp only at *
          by_cases e : x1 = y1
          · have := hne e; omega
          · omega
        refine MR.cons_alo (fun m hm => ?_) (bmrg_rise cg ch (a :: l) k h1 q2)
        obtain ⟨x, hx, e⟩ := bmrg_name cg ch (a :: l) k m hm
        rw [e]; rcases hx with hx | hx
        · rcases List.mem_cons.1 hx with rfl | hx
          · exact hba
          · exact hba.trans (p1 x hx)
        · exact q1 x hx
      · rename_i hne
        have he : a.1 = b.1 := by simpa using hne
        refine List.pairwise_cons.2 ⟨fun m hm => ?_, bmrg_rise cg ch l k p2 q2⟩
        obtain ⟨x, hx, e⟩ := bmrg_name cg ch l k m hm
        rw [e, bothM_name he]; rcases hx with hx | hx
        · exact p1 x hx
        · rw [he]; exact q1 x hx
termination_by l k => l.length + k.length
theorem lget_cons (a : Msg) (l : List Msg) (d : Dot) : lget (a :: l) d = if a.1 = d then some a else lget l d := by
  unfold lget; rw [List.find?_cons]; by_cases h : a.1 = d <;> simp [h]
theorem lget_alo (c : Dot → Bool) (a : Msg) (d : Dot) : lget (alo c a) d = if a.1 = d ∧ c d = false then some a else none := by
  unfold alo
  by_cases h : a.1 = d
  · subst h
    by_cases hc : c a.1 = true <;> simp [hc, lget]
  · by_cases hc : c a.1 = true <;> simp [hc, lget, h]
theorem lget_above {a : Msg} {l : List Msg} {d : Dot} (h : ∀ m ∈ l, DL a.1 m.1) (hd : d = a.1 ∨ DL d a.1) : lget l d = none := by
  rw [lget_none]
  intro m hm e
  have := h m hm
  rw [e] at this
  rcases hd with rfl | hd
  · exact DL.irrefl _ this
  · exact DL.irrefl _ (hd.trans this)
theorem bmrg_get (cg ch : Dot → Bool) (d : Dot) : ∀ (l k : List Msg), MR l → MR k → lget (bmrg cg ch l k) d = jof (lget l d) (cg d) (lget k d) (ch d)
  | [], [], _, _ => by rw [bmrg]; rfl
  | a :: l, [], h1, h2 => by
    obtain ⟨p1, p2⟩ := List.pairwise_cons.1 h1
    rw [bmrg, lget_append, lget_alo, bmrg_get cg ch d l [] p2 h2, lget_cons]
    by_cases h : a.1 = d
    · have := lget_above p1 (.inl h.symm)
      rw [this]
      cases hc : ch d <;> simp [h, jof, lget]
    · simp [h]
  | [], b :: k, h1, h2 => by
    obtain ⟨p1, p2⟩ := List.pairwise_cons.1 h2
    rw [bmrg, lget_append, lget_alo, bmrg_get cg ch d [] k h1 p2, lget_cons]
    by_cases h : b.1 = d
    · have := lget_above p1 (.inl h.symm)
      rw [this]
      cases hc : cg d <;> simp [h, jof, lget]
    · simp [h]
  | a :: l, b :: k, h1, h2 => by
    obtain ⟨p1, p2⟩ := List.pairwise_cons.1 h1
    obtain ⟨q1, q2⟩ := List.pairwise_cons.1 h2
    rw [bmrg]
    split
    · rename_i hlt
      rw [dlt_iff] at hlt
      rw [lget_append, lget_alo, bmrg_get cg ch d l (b :: k) p2 h2, lget_cons a]
      by_cases h : a.1 = d
      · have e1 := lget_above p1 (.inl h.symm)
        have e2 : lget (b :: k) d = none := lget_above (a := a) (fun m hm => by
          rcases List.mem_cons.1 hm with rfl | hm
          · exact hlt
          · exact hlt.trans (q1 m hm)) (.inl h.symm)
        rw [e1, e2]
        cases hc : ch d <;> simp [h, jof]
      · simp [h]
    · rename_i hlt
      split
      · rename_i hne
        have hlt' : ¬ DL a.1 b.1 := by rw [← dlt_iff]; exact hlt
        have hba : DL b.1 a.1 := by
          obtain ⟨⟨x1, x2⟩, xr⟩ := a
          obtain ⟨⟨y1, y2⟩, yr⟩ := b
          dsimp only at *
          unfold DL at *
          simp only [ne_eq, Prod.mk.injEq, not_and] at hne
          dsimp only at *
          by_cases e : x1 = y1
          · have := hne e; omega
          · omega
        rw [lget_append, lget_alo, bmrg_get cg ch d (a :: l) k h1 q2, lget_cons b]
        by_cases h : b.1 = d
        · have e1 := lget_above q1 (.inl h.symm)
          have e2 : lget (a :: l) d = none := lget_above (a := b) (fun m hm => by
            rcases List.mem_cons.1 hm with rfl | hm
            · exact hba
            · exact hba.trans (p1 m hm)) (.inl h.symm)
          rw [e1, e2]
          cases hc : cg d <;> simp [h, jof]
        · simp [h]
      · rename_i hne
        have he : a.1 = b.1 := by simpa using hne
        rw [lget_cons, bothM_name he, bmrg_get cg ch d l k p2 q2, lget_cons, lget_cons, ← he]
        by_cases h : a.1 = d <;> simp [h, jof]
termination_by l k => l.length + k.length
theorem bmrg_join {U V : List Dot} {g h : Bag} (hg : BOk U g) (hh : BOk V h) : bmrg (chas g.2.1 g.2.2) (chas h.2.1 h.2.2) g.1 h.1 = (bjoin g h).1 :=
  mr_ext (bmrg_rise _ _ _ _ hg.r hh.r) (msort_rise (hg.md hh)) (fun d => by rw [bmrg_get _ _ _ _ _ hg.r hh.r, bjoin_get hg hh])
end Go.Proofs.YtbcbmnifbflmaaaGreat
