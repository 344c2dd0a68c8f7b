/- Rows of names that rise, in plain words. -/
import Derived.Test.YtimcjkimehhgcaaHas
namespace Go.Proofs.Ytimcjkimehhgcaa
open Go.RowKit Go.Maps

def dok (d : Dot) : Prop := 1 ≤ d.1 ∧ d.1 ≤ 1099511627776 ∧ 1 ≤ d.2 ∧ d.2 ≤ 1099511627776
theorem dchk_iff {d : Dot} : dchk d = true ↔ dok d := by unfold dchk dok; simp [and_assoc]
def DL (a b : Dot) : Prop := a.1 < b.1 ∨ (a.1 = b.1 ∧ a.2 < b.2)
theorem dlt_iff {a b : Dot} : dlt a b = true ↔ DL a b := by unfold dlt DL; simp
theorem dlt_false {a b : Dot} : dlt a b = false ↔ ¬ DL a b := by rw [← dlt_iff]; simp
theorem DL.trans {a b c : Dot} (h : DL a b) (k : DL b c) : DL a c := by unfold DL at *; omega
theorem DL.irrefl (a : Dot) : ¬ DL a a := by unfold DL; omega
theorem DL.tri (a b : Dot) : DL a b ∨ a = b ∨ DL b a := by
  obtain ⟨a1, a2⟩ := a
  obtain ⟨b1, b2⟩ := b
  unfold DL
  dsimp only
  by_cases h1 : a1 = b1
  · by_cases h2 : a2 = b2
    · right; left; rw [h1, h2]
    · omega
  · omega
def Rise (l : List Dot) : Prop := l.Pairwise DL
theorem rise_eq : ∀ {l k : List Dot}, Rise l → Rise k → (∀ d, d ∈ l ↔ d ∈ k) → l = k
  | [], [], _, _, _ => rfl
  | [], b :: k, _, _, h => absurd ((h b).2 (by simp)) (by simp)
  | a :: l, [], _, _, h => absurd ((h a).1 (by simp)) (by simp)
  | a :: l, b :: k, h1, h2, h => by
    obtain ⟨p1, p2⟩ := List.pairwise_cons.1 h1
    obtain ⟨q1, q2⟩ := List.pairwise_cons.1 h2
    have hab : a = b := by
      rcases List.mem_cons.1 ((h a).1 (by simp)) with e | e
      · exact e
      · rcases List.mem_cons.1 ((h b).2 (by simp)) with e' | e'
        · exact e'.symm
        · exact absurd ((q1 a e).trans (p1 b e')) (DL.irrefl b)
    subst hab
    congr 1
    refine rise_eq p2 q2 (fun d => ⟨fun hd => ?_, fun hd => ?_⟩)
    · rcases List.mem_cons.1 ((h d).1 (List.mem_cons_of_mem _ hd)) with e | e
      · subst e; exact absurd (p1 _ hd) (DL.irrefl _)
      · exact e
    · rcases List.mem_cons.1 ((h d).2 (List.mem_cons_of_mem _ hd)) with e | e
      · subst e; exact absurd (q1 _ hd) (DL.irrefl _)
      · exact e
theorem getD_mem_d {l : List Dot} {k : Nat} (h : k < l.length) : l.getD k (0, 0) ∈ l := by simp [List.getD, h]
theorem drop_cons_d (l : List Dot) (k : Nat) (h : k < l.length) : l.drop k = l.getD k (0, 0) :: l.drop (k + 1) := by
  rw [List.drop_eq_getElem_cons h]; simp [List.getD, h]
theorem dpos_spec (out : List Dot) (d : Dot) : ∀ k, k ≤ out.length → (∀ e ∈ out.drop k, DL d e) → (∀ e ∈ out.drop (dpos out d k), DL d e) ∧ (dpos out d k = 0 ∨ ¬ DL d (out.getD (dpos out d k - 1) (0, 0)))
  | 0, _, h => ⟨h, .inl rfl⟩
  | k + 1, hk, h => by
    unfold dpos
    split
    · rename_i hl
      refine dpos_spec out d k (by omega) (fun e he => ?_)
      rw [drop_cons_d out k (by omega)] at he
      rcases List.mem_cons.1 he with rfl | he
      · exact dlt_iff.1 hl
      · exact h e he
    · rename_i hl
      exact ⟨h, .inr (by rw [Nat.add_sub_cancel]; exact fun e => hl (dlt_iff.2 e))⟩
theorem rise_take {l : List Dot} (h : Rise l) (k : Nat) : Rise (l.take k) := h.sublist (List.take_sublist _ _)
theorem rise_drop {l : List Dot} (h : Rise l) (k : Nat) : Rise (l.drop k) := h.sublist (List.drop_sublist _ _)
theorem rise_before {l : List Dot} (h : Rise l) {k : Nat} (hk : k < l.length) {e : Dot} (he : e ∈ l.take (k + 1)) : e = l.getD k (0, 0) ∨ DL e (l.getD k (0, 0)) := by
  rw [take_succ_d l k hk, List.mem_append, List.mem_singleton] at he
  rcases he with he | he
  · right
    have h2 := rise_take h (k + 1)
    rw [take_succ_d l k hk] at h2
    exact (List.pairwise_append.1 h2).2.2 e he _ (by simp)
  · exact .inl he
theorem dins_rise {out : List Dot} (h : Rise out) (d : Dot) : Rise (dins out d) ∧ ∀ e, e ∈ dins out d ↔ e ∈ out ∨ e = d := by
  unfold dins
  split
  · rename_i hd
    exact ⟨h, fun e => ⟨.inl, fun he => he.elim id (fun e' => by rw [e']; exact hd)⟩⟩
  · rename_i hd
    obtain ⟨s1, s2⟩ := dpos_spec out d out.length (Nat.le_refl _) (by simp)
    have hle := dpos_le out d out.length
    generalize dpos out d out.length = p at *
    have hb : ∀ e ∈ out.take p, DL e d := by
      intro e he
      rcases s2 with rfl | s2
      · simp at he
      · rcases Nat.eq_zero_or_pos p with h0 | h0
        · subst h0; simp at he
        · have hk : p - 1 < out.length := by omega
          have hx : DL (out.getD (p - 1) (0, 0)) d := by
            rcases DL.tri (out.getD (p - 1) (0, 0)) d with h | h | h
            · exact h
            · exact absurd (by rw [← h]; exact getD_mem_d hk) hd
            · exact absurd h s2
          have := rise_before h hk (e := e) (by rw [show p - 1 + 1 = p by omega]; exact he)
          rcases this with rfl | this
          · exact hx
          · exact this.trans hx
    refine ⟨?_, fun e => ?_⟩
    · refine List.pairwise_append.2 ⟨List.pairwise_append.2 ⟨rise_take h p, List.pairwise_singleton _ _, fun a ha b hb' => ?_⟩, rise_drop h p, fun a ha b hb' => ?_⟩
      · rw [List.mem_singleton] at hb'; subst hb'; exact hb a ha
      · rcases List.mem_append.1 ha with ha | ha
        · exact (hb a ha).trans (s1 b hb')
        · rw [List.mem_singleton] at ha; subst ha; exact s1 b hb'
    · conv => rhs; rw [← List.take_append_drop p out]
      simp only [List.mem_append, List.mem_singleton]
      constructor
      · rintro ((h | h) | h)
        · exact .inl (.inl h)
        · exact .inr h
        · exact .inl (.inr h)
      · rintro ((h | h) | h)
        · exact .inl (.inl h)
        · exact .inr h
        · exact .inl (.inr h)
theorem dsort_spec (l : List Dot) : Rise (dsort l) ∧ ∀ e, e ∈ dsort l ↔ e ∈ l := by
  have key : ∀ (l out : List Dot), Rise out → Rise (l.foldl dins out) ∧ ∀ e, e ∈ l.foldl dins out ↔ e ∈ out ∨ e ∈ l := by
    intro l
    induction l with
    | nil => intro out h; exact ⟨h, by simp⟩
    | cons d l ih =>
      intro out h
      obtain ⟨h1, h2⟩ := dins_rise h d
      obtain ⟨h3, h4⟩ := ih _ h1
      refine ⟨h3, fun e => ?_⟩
      rw [List.foldl_cons, h4, h2, List.mem_cons, or_assoc]
  obtain ⟨h1, h2⟩ := key l [] List.Pairwise.nil
  exact ⟨h1, fun e => by have := h2 e; simp only [List.not_mem_nil, false_or] at this; exact this⟩
theorem dsort_self {l : List Dot} (h : Rise l) : dsort l = l := rise_eq (dsort_spec l).1 h (dsort_spec l).2
theorem dsort_eq {l k : List Dot} (hk : Rise k) (h : ∀ d, d ∈ k ↔ d ∈ l) : k = dsort l := rise_eq hk (dsort_spec l).1 (fun d => (h d).trans ((dsort_spec l).2 d).symm)
theorem Rise.filter {l : List Dot} (h : Rise l) (p : Dot → Bool) : Rise (l.filter p) := h.sublist List.filter_sublist

/-! ### what is seen of one node -/
theorem cfold_far (u : Int) : ∀ (l out : List Dot), (∀ d ∈ l, u + 1 < d.2) → l.foldl cstep (u, out) = (u, out ++ l)
  | [], out, _ => by simp
  | d :: l, out, h => by
    have hd := h d (by simp)
    have e : cstep (u, out) d = (u, out ++ [d]) := by unfold cstep; dsimp only; rw [if_neg (by omega), if_pos (by omega)]
    rw [List.foldl_cons, e, cfold_far u l _ (fun x hx => h x (List.mem_cons_of_mem _ hx))]
    simp
/-- taken, as the program does it. -/
def takenL : Int → List Dot → Int × List Dot
  | u, [] => (u, [])
  | u, d :: l => if u + 1 < d.2 then (u, d :: l) else takenL (max u d.2) l
def RN (l : List Dot) : Prop := l.Pairwise fun a b => a.2 < b.2
theorem taken_fold : ∀ (l : List Dot) (u : Int), RN l → takenL u l = cfold u l
  | [], u, _ => rfl
  | d :: l, u, h => by
    obtain ⟨h1, h2⟩ := List.pairwise_cons.1 h
    unfold takenL cfold
    rw [List.foldl_cons]
    split
    · rename_i hd
      have e : cstep (u, []) d = (u, [d]) := by unfold cstep; dsimp only; rw [if_neg (by omega), if_pos (by omega)]; rfl
      rw [e, cfold_far u l _ (fun x hx => by have := h1 x hx; omega)]; rfl
    · rename_i hd
      rw [taken_fold l _ h2]
      unfold cfold
      congr 1
      unfold cstep
      dsimp only
      by_cases he : d.2 = u + 1
      · rw [if_pos he]; congr 1; omega
      · rw [if_neg he, if_neg (by omega)]; congr 1; omega
theorem taken_spec : ∀ (l : List Dot) (u : Int), RN l → u ≤ (takenL u l).1 ∧ (∀ n, u < n → n ≤ (takenL u l).1 → ∃ d ∈ l, d.2 = n) ∧ (takenL u l).2.Sublist l ∧ (∀ d ∈ l, d.2 ≤ (takenL u l).1 ∨ d ∈ (takenL u l).2) ∧ (∀ d ∈ (takenL u l).2, (takenL u l).1 + 1 < d.2)
  | [], u, _ => ⟨Int.le_refl _, fun n h1 h2 => by unfold takenL at h2; dsimp only at h2; omega, List.Sublist.refl _, by simp, by simp [takenL]⟩
  | d :: l, u, h => by
    obtain ⟨h1, h2⟩ := List.pairwise_cons.1 h
    unfold takenL
    split
    · rename_i hd
      refine ⟨Int.le_refl _, fun n h1 h2 => by dsimp only at h2; omega, List.Sublist.refl _, fun x hx => .inr hx, fun x hx => ?_⟩
      rcases List.mem_cons.1 hx with rfl | hx
      · exact hd
      · have := h1 x hx; dsimp only; omega
    · rename_i hd
      obtain ⟨i1, i2, i3, i4, i5⟩ := taken_spec l (max u d.2) h2
      refine ⟨by omega, fun n a1 a2 => ?_, i3.cons _, fun x hx => ?_, i5⟩
      · by_cases hn : max u d.2 < n
        · obtain ⟨x, hx, e⟩ := i2 n hn a2
          exact ⟨x, List.mem_cons_of_mem _ hx, e⟩
        · exact ⟨d, by simp, by omega⟩
      · rcases List.mem_cons.1 hx with rfl | hx
        · left; omega
        · exact i4 x hx
theorem rise_node {l : List Dot} (h : Rise l) (x : Int) : RN (l.filter fun d => d.1 == x) := by
  have hf := h.filter (fun d => d.1 == x)
  refine List.Pairwise.imp_of_mem ?_ hf
  intro a b ha hb hab
  have h1 : a.1 = x := by simpa using (List.mem_filter.1 ha).2
  have h2 : b.1 = x := by simpa using (List.mem_filter.1 hb).2
  unfold DL at hab; omega
theorem cof_taken (x u : Int) (cl : List Dot) : cof x u cl = takenL u ((dsort cl).filter fun d => d.1 == x) := (taken_fold _ u (rise_node (dsort_spec cl).1 x)).symm
end Go.Proofs.Ytimcjkimehhgcaa
