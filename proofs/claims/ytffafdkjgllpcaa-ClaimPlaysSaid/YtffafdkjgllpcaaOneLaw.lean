/- The plain law of ClaimOne: two claims of one row of owners, of which each owner says yes to one at most. No program is named here. -/
import Derived.Test.YtffafdkjgllpcaaClaimG
namespace Go.Proofs.Ytffafdkjgllpcaa

/-- How many of O lie in p and say y. -/
def cnt (O p : List Int) (f : Int → Bool) (y : Bool) : Nat := O.countP fun o => decide (o ∈ p) && (f o == y)

/-- The claim c has been asked those of p, who answer by f. -/
structure Asked (O : List Int) (f : Int → Bool) (p : List Int) (c : CM) : Prop where
  owners : c.owners = O
  three : c.state = 0 ∨ c.state = 1 ∨ c.state = 2
  said : c.state = 0 → ∀ o, mlook c.said o = if o ∈ p then some (f o) else none
  notyet : c.state = 0 → cnt O p f true < O.length / 2 + 1
  still : c.state = 0 → O.length / 2 + 1 ≤ O.length - cnt O p f false
  won : c.state = 1 → O.length / 2 + 1 ≤ O.countP f

theorem asked_start (O : List Int) (f : Int → Bool) (c : CM) (h1 : c.owners = O) (h2 : c.state = 0) (h3 : c.said = []) (h4 : O ≠ []) : Asked O f [] c := by
  have h0 : ∀ y, cnt O [] f y = 0 := fun y => by simp [cnt]
  have hl : 0 < O.length := List.length_pos_iff.2 h4
  refine ⟨h1, .inl h2, fun _ o => by simp [h3, mlook], fun _ => ?_, fun _ => ?_, fun h => by omega⟩
  · rw [h0]; omega
  · rw [h0]; omega

theorem cnt_le (O p : List Int) (f : Int → Bool) : cnt O p f true ≤ O.countP f := by
  unfold cnt
  refine List.countP_mono_left fun x _ h => ?_
  simp only [Bool.and_eq_true, beq_iff_eq] at h
  exact h.2

theorem saidL_count (m : List (Int × Bool)) (O p : List Int) (f : Int → Bool) (y : Bool) (h : ∀ o, mlook m o = if o ∈ p then some (f o) else none) : (saidL m y O).length = cnt O p f y := by
  unfold saidL cnt
  rw [← List.countP_eq_length_filter]
  refine List.countP_congr fun o _ => ?_
  rw [h o]
  by_cases ho : o ∈ p <;> simp [ho]

theorem asked_step {O p : List Int} {f : Int → Bool} {c : CM} (h : Asked O f p c) {o : Int} (ho : o ∈ O) : Asked O f (p ++ [o]) (c.answer o (f o)) := by
  unfold CM.answer
  by_cases hc : c.counts o = true
  · rw [if_pos hc]
    obtain ⟨h1, h2, h3⟩ : c.state = 0 ∧ o ∈ c.owners ∧ mlook c.said o = none := by
      simp only [CM.counts, Bool.and_eq_true, decide_eq_true_eq, Option.isNone_iff_eq_none] at hc
      exact ⟨hc.1.1, hc.1.2, hc.2⟩
    have hs : ∀ x, mlook (mput c.said o (f o)) x = if x ∈ p ++ [o] then some (f x) else none := fun x => by
      rw [mlook_mput]
      by_cases hx : x = o
      · subst hx; simp
      · rw [if_neg hx, h.said h1 x]; simp [hx]
    have ht := saidL_count _ O (p ++ [o]) f true hs
    have hf := saidL_count _ O (p ++ [o]) f false hs
    have hle := cnt_le O (p ++ [o]) f
    unfold CM.count
    simp only [h.owners, ht, hf]
    by_cases k1 : O.length / 2 + 1 ≤ cnt O (p ++ [o]) f true
    · rw [if_pos k1]
      exact ⟨rfl, .inr (.inl rfl), fun e => by simp at e, fun e => by simp at e, fun e => by simp at e, fun _ => by omega⟩
    · rw [if_neg k1]
      by_cases k2 : O.length - cnt O (p ++ [o]) f false < O.length / 2 + 1
      · rw [if_pos k2]
        exact ⟨rfl, .inr (.inr rfl), fun e => by simp at e, fun e => by simp at e, fun e => by simp at e, fun e => by simp at e⟩
      · rw [if_neg k2]
        exact ⟨rfl, .inl h1, fun _ => hs, fun _ => by omega, fun _ => by omega, fun e => by simp [h1] at e⟩
  · rw [if_neg hc]
    refine ⟨h.owners, h.three, fun e => ?_, fun e => ?_, fun e => ?_, h.won⟩
    all_goals
      have hin : o ∈ p := by
        apply Classical.byContradiction
        intro hn
        exact hc (by simp [CM.counts, e, h.owners, ho, h.said e o, hn])
      have hmem : ∀ x, x ∈ p ++ [o] ↔ x ∈ p := fun x => by
        simp only [List.mem_append, List.mem_singleton]
        constructor
        · rintro (hx | rfl)
          · exact hx
          · exact hin
        · exact .inl
    · intro x; rw [h.said e x]; simp only [hmem]
    · have := h.notyet e; unfold cnt at this ⊢; simpa only [hmem] using this
    · have := h.still e; unfold cnt at this ⊢; simpa only [hmem] using this

/-- All have been asked: it is decided. -/
theorem asked_all {O p : List Int} {f : Int → Bool} {c : CM} (h : Asked O f p c) (hp : ∀ o ∈ O, o ∈ p) : c.state ≠ 0 := by
  intro e
  have h1 := h.notyet e
  have h2 := h.still e
  have e1 : ∀ y, cnt O p f y = O.countP fun o => f o == y := fun y => by
    unfold cnt
    exact List.countP_congr fun o ho => by simp [hp o ho]
  have e2 : O.length = (O.countP fun o => f o == true) + O.countP fun o => f o == false := by
    rw [List.length_eq_countP_add_countP (p := fun o => f o == true)]
    congr 1
    exact List.countP_congr fun o _ => by cases f o <;> simp
  rw [e1] at h1 h2
  omega

/-- Of two whose yeses part not both are won. -/
theorem asked_two {O p p' : List Int} {f g : Int → Bool} {c d : CM} (h : Asked O f p c) (k : Asked O g p' d) (hfg : ∀ o, f o = true → g o = true → False) : ¬ (c.state = 1 ∧ d.state = 1) := by
  rintro ⟨e, e'⟩
  have h1 := h.won e
  have h2 := k.won e'
  have h3 : O.countP f + O.countP g ≤ O.length := by
    have : ∀ l : List Int, l.countP f + l.countP g ≤ l.length := by
      intro l
      induction l with
      | nil => simp
      | cons a l ih =>
        rw [List.countP_cons, List.countP_cons, List.length_cons]
        have := hfg a
        cases hf : f a <;> cases hg : g a <;> simp_all <;> omega
    exact this O
  omega
end Go.Proofs.Ytffafdkjgllpcaa
