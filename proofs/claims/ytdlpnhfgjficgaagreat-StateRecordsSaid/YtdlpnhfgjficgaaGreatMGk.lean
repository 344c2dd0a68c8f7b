/- Rows of structs in general: each element a row of cells of one length. No program is named here. Rows that rise by a key, in plain words: told by what they have of each key. -/
import Derived.Test.YtdlpnhfgjficgaaGreatMBs
namespace Go.Proofs.YtdlpnhfgjficgaaGreat
open Go.RowKit Go.Maps

/-- How an element lies: its cells, s of them, each one cell. -/
structure Enc {α : Type} (f : α → List Value) (s : Nat) : Prop where
  len : ∀ a, (f a).length = s
  one : ∀ a, ∀ u ∈ f a, u.oneCell' = true
def gvs {α : Type} (f : α → List Value) (l : List α) : List Value := l.flatMap f
def GRow {α : Type} (f : α → List Value) (s : Nat) (w : World) (v : Value) (l : List α) : Prop := Row w v l.length s (gvs f l)
section
variable {α : Type} {f : α → List Value} {s : Nat}
theorem gvs_append (l k : List α) : gvs f (l ++ k) = gvs f l ++ gvs f k := by simp [gvs]
theorem gvs_one1 (a : α) : gvs f [a] = f a := by simp [gvs]
theorem gvs_get (h : Enc f s) (z : α) : ∀ (l : List α) (k : Nat), k < l.length → ∀ j, j < s → (gvs f l)[k * s + j]? = (f (l.getD k z))[j]?
  | [], k, hk, _, _ => absurd hk (Nat.not_lt_zero _)
  | d :: l, 0, _, j, hj => by
    have e : gvs f (d :: l) = f d ++ gvs f l := rfl
    rw [e, List.getElem?_append_left (by rw [h.len]; omega)]
    simp [List.getD]
  | d :: l, k + 1, hk, j, hj => by
    have ih := gvs_get h z l k (by simpa using hk) j hj
    have e : gvs f (d :: l) = f d ++ gvs f l := rfl
    rw [e, List.getElem?_append_right (by rw [h.len, Nat.succ_mul]; omega), h.len, show (k + 1) * s + j - s = k * s + j by rw [Nat.succ_mul]; omega, ih]
    simp [List.getD]
theorem gvs_cells (h : Enc f s) (l : List α) : ∀ u ∈ gvs f l, u.oneCell' = true := by
  intro u hu
  simp only [gvs, List.mem_flatMap] at hu
  obtain ⟨a, _, ha⟩ := hu
  exact h.one a u ha
theorem GRow.shape {w : World} {v : Value} {l : List α} (h : GRow f s w v l) : ∃ a cap, v = .slice a l.length cap := Row.shape h
theorem GRow.get {w : World} {a : Option Addr} {n cap : Nat} {l : List α} (h : GRow f s w (.slice a n cap) l) (hE : Enc f s) (z : α) {k : Nat} (hk : k < l.length) :
    ∃ b off, a = some ⟨b, off, none⟩ ∧ b < w.heap.size ∧ ∀ j, j < s → w.cell? ⟨b, off + k * s + j, none⟩ = (f (l.getD k z))[j]? := by
  have e : n = l.length := by obtain ⟨a', c', e⟩ := h.shape; injection e
  subst e
  obtain ⟨b, off, e, hb, hc⟩ := Row.elem h hk
  exact ⟨b, off, e, hb, fun j hj => (hc j hj).trans (gvs_get hE z l k hk j hj)⟩
theorem take_succ_g (z : α) (l : List α) (k : Nat) (h : k < l.length) : l.take (k + 1) = l.take k ++ [l.getD k z] := by
  rw [List.take_succ_eq_append_getElem h]; simp [List.getD, h]
theorem drop_g (z : α) (l : List α) (k : Nat) (h : k < l.length) : l.drop k = l.getD k z :: l.drop (k + 1) := by
  rw [List.drop_eq_getElem_cons h]; simp [List.getD, h]
theorem mem_get_g {z : α} {l : List α} {k : Nat} (h : k < l.length) : l.getD k z ∈ l := by simp [List.getD, h]
/-- A literal of one element. -/
theorem lit_g (w : World) (t : TypeId) (x : α) (n : Nat) (hn : (f x).length = n) (hs : s = n) : GRow f s (w.alloc (.cells (f x).toArray t)) (.slice (some ⟨w.heap.size, 0, none⟩) 1 1) [x] := by
  subst hs
  refine ⟨by rw [gvs_one1]; simpa using hn, _, _, rfl, Nat.le_refl _, by unfold maxLen; omega, .inr ⟨_, _, rfl, by simp, fun i hi => ?_⟩⟩
  rw [Nat.zero_add, World.cell?_alloc_new, gvs_one1]
  simp
end
end Go.Proofs.YtdlpnhfgjficgaaGreat

namespace Go.Proofs.YtdlpnhfgjficgaaGreat

section
variable {α κ : Type} (key : α → κ) (lt : κ → κ → Prop)
/-- Rising, each key once. -/
def KS (l : List α) : Prop := l.Pairwise fun x y => lt (key x) (key y)
variable {key lt}
theorem KS.nil : KS key lt ([] : List α) := List.Pairwise.nil
theorem KS.take {l : List α} (h : KS key lt l) (n : Nat) : KS key lt (l.take n) := List.Pairwise.sublist (List.take_sublist _ _) h
variable (irr : ∀ a, ¬ lt a a) (tr : ∀ a b c, lt a b → lt b c → lt a c)
include irr tr in
theorem KS.eq_of_mem : ∀ {l m : List α}, KS key lt l → KS key lt m → (∀ x, x ∈ l ↔ x ∈ m) → l = m
  | [], [], _, _, _ => rfl
  | [], b :: k, _, _, h => absurd ((h b).2 (by simp)) (by simp)
  | a :: l, [], _, _, h => absurd ((h a).1 (by simp)) (by simp)
  | a :: l, b :: k, h1, h2, h => by
    obtain ⟨p1, p2⟩ := List.pairwise_cons.1 h1
    obtain ⟨q1, q2⟩ := List.pairwise_cons.1 h2
    have hab : a = b := by
      rcases List.mem_cons.1 ((h a).1 (by simp)) with e | e
      · exact e
      · rcases List.mem_cons.1 ((h b).2 (by simp)) with e' | e'
        · exact e'.symm
        · exact absurd (tr _ _ _ (q1 a e) (p1 b e')) (irr _)
    subst hab
    congr 1
    refine KS.eq_of_mem p2 q2 (fun d => ⟨fun hd => ?_, fun hd => ?_⟩)
    · rcases List.mem_cons.1 ((h d).1 (List.mem_cons_of_mem _ hd)) with e | e
      · subst e; exact absurd (p1 _ hd) (irr _)
      · exact e
    · rcases List.mem_cons.1 ((h d).2 (List.mem_cons_of_mem _ hd)) with e | e
      · subst e; exact absurd (q1 _ hd) (irr _)
      · exact e
end
section
variable {α κ : Type} [DecidableEq κ] (key : α → κ) (lt : κ → κ → Prop)
def kget (l : List α) (k : κ) : Option α := l.find? fun x => decide (key x = k)
variable {key lt}
theorem kget_some {l : List α} {k : κ} {x : α} (h : kget key l k = some x) : x ∈ l ∧ key x = k := by
  have h1 := List.mem_of_find?_eq_some h
  have h2 := List.find?_some h
  exact ⟨h1, by simpa using h2⟩
theorem kget_none {l : List α} {k : κ} : kget key l k = none ↔ ∀ x ∈ l, key x ≠ k := by
  unfold kget; rw [List.find?_eq_none]; simp
theorem kget_nil (k : κ) : kget key ([] : List α) k = none := rfl
theorem kget_cons (x : α) (l : List α) (k : κ) : kget key (x :: l) k = if key x = k then some x else kget key l k := by
  unfold kget; rw [List.find?_cons]
  by_cases h : key x = k <;> simp [h]
theorem kget_append (l m : List α) (k : κ) : kget key (l ++ m) k = (kget key l k).or (kget key m k) := by
  unfold kget; rw [List.find?_append]
variable (irr : ∀ a, ¬ lt a a) (tr : ∀ a b c, lt a b → lt b c → lt a c)
include irr in
theorem KS.get_of_mem {l : List α} (h : KS key lt l) {x : α} (hx : x ∈ l) : kget key l (key x) = some x := by
  induction l with
  | nil => simp at hx
  | cons a l ih =>
    obtain ⟨h1, h2⟩ := List.pairwise_cons.1 h
    rw [kget_cons]
    rcases List.mem_cons.1 hx with rfl | hx
    · rw [if_pos rfl]
    · rw [if_neg (fun e => irr (key x) (by have := h1 x hx; rw [e] at this; exact this))]
      exact ih h2 hx
include irr in
theorem KS.mem_get {l : List α} (h : KS key lt l) {x : α} : x ∈ l ↔ kget key l (key x) = some x :=
  ⟨h.get_of_mem irr, fun e => (kget_some e).1⟩
include irr tr in
theorem KS.ext {l m : List α} (h1 : KS key lt l) (h2 : KS key lt m) (h : ∀ k, kget key l k = kget key m k) : l = m :=
  KS.eq_of_mem irr tr h1 h2 (fun x => by rw [h1.mem_get irr, h2.mem_get irr, h])

/-! ### one more: put in its place, what was there of its key replaced -/
variable (lt) [∀ a b, Decidable (lt a b)]
def kins (key : α → κ) (x : α) : List α → List α
  | [] => [x]
  | a :: l => if key a = key x then x :: l else if lt (key x) (key a) then x :: a :: l else a :: kins key x l
variable {lt}
theorem kins_get (x : α) : ∀ (l : List α) (k : κ), kget key (kins lt key x l) k = if key x = k then some x else kget key l k
  | [], k => by rw [kins, kget_cons, kget_nil]
  | a :: l, k => by
    rw [kins]
    split
    · rename_i h
      rw [kget_cons, kget_cons, h]
      by_cases hk : key x = k <;> simp [hk]
    · rename_i h
      split
      · rw [kget_cons]
      · rw [kget_cons, kget_cons, kins_get x l k]
        by_cases hk : key a = k
        · subst hk
          rw [if_pos rfl, if_neg (fun e => h e.symm), if_pos rfl]
        · rw [if_neg hk, if_neg hk]
theorem kins_mem (x : α) : ∀ (l : List α) (y : α), y ∈ kins lt key x l → y = x ∨ y ∈ l
  | [], y, h => by simp [kins] at h; exact .inl h
  | a :: l, y, h => by
    rw [kins] at h
    split at h
    · rcases List.mem_cons.1 h with h | h
      · exact .inl h
      · exact .inr (List.mem_cons_of_mem _ h)
    · split at h
      · rcases List.mem_cons.1 h with h | h
        · exact .inl h
        · exact .inr h
      · rcases List.mem_cons.1 h with h | h
        · exact .inr (by simp [h])
        · rcases kins_mem x l y h with h | h
          · exact .inl h
          · exact .inr (List.mem_cons_of_mem _ h)
variable (tot : ∀ a b, a ≠ b → ¬ lt a b → lt b a)
include tr tot in
theorem KS.ins (x : α) : ∀ {l : List α}, KS key lt l → KS key lt (kins lt key x l)
  | [], _ => List.pairwise_singleton _ _
  | a :: l, h => by
    obtain ⟨h1, h2⟩ := List.pairwise_cons.1 h
    rw [kins]
    split
    · rename_i e
      exact List.pairwise_cons.2 ⟨fun y hy => by rw [← e]; exact h1 y hy, h2⟩
    · rename_i e
      split
      · rename_i hl
        refine List.pairwise_cons.2 ⟨fun y hy => ?_, h⟩
        rcases List.mem_cons.1 hy with rfl | hy
        · exact hl
        · exact tr _ _ _ hl (h1 y hy)
      · rename_i hl
        refine List.pairwise_cons.2 ⟨fun y hy => ?_, KS.ins x h2⟩
        rcases kins_mem x l y hy with rfl | hy
        · exact tot _ _ (fun e' => e e'.symm) hl
        · exact h1 y hy
end
end Go.Proofs.YtdlpnhfgjficgaaGreat

