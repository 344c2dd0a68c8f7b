/- What one tick does, for the laws of own and asks. -/
import Derived.Test.YtlamhobkmknnpaaWatchN
namespace Go.Proofs.Ytlamhobkmknnpaa
open Go.RowKit Go.Maps Go.MapKept

theorem sus1_id (p : Pr) : (sus1 p).id = p.id := by unfold sus1; split <;> rfl
theorem ref1_id (p : Pr) : (ref1 p).id = p.id := by unfold ref1; split <;> rfl
theorem chg_ids (f : Pr → Pr) (hf : ∀ p, (f p).id = p.id) (id : Int) : ∀ l : List Pr, (chg l id f).map (·.id) = l.map (·.id)
  | [] => rfl
  | p :: l => by
    unfold chg
    split
    · simp [hf]
    · simp [chg_ids f hf id l]
theorem chg_find (f : Pr → Pr) (hf : ∀ p, (f p).id = p.id) (id q : Int) : ∀ l : List Pr, pfind (chg l id f) q = if q = id then (pfind l id).map f else pfind l q
  | [] => by simp [chg, pfind]
  | p :: l => by
    have ih := chg_find f hf id q l
    unfold pfind at ih ⊢
    unfold chg
    by_cases h : p.id = id
    · have e2 : (p.id == id) = true := by simpa using h
      by_cases hq : q = id
      · have e1 : (p.id == q) = true := by rw [hq]; simpa using h
        simp only [if_pos h, if_pos hq, List.find?_cons, hf, e1, e2]; rfl
      · have e1 : (p.id == q) = false := by simp; omega
        simp only [if_pos h, if_neg hq, List.find?_cons, hf, e1]
    · have e2 : (p.id == id) = false := by simpa using h
      by_cases hq : p.id = q
      · have e1 : (p.id == q) = true := by simpa using hq
        have h2 : ¬ q = id := by omega
        simp only [if_neg h, if_neg h2, List.find?_cons, e1]
      · have e1 : (p.id == q) = false := by simpa using hq
        simp only [if_neg h, List.find?_cons, e1, e2, ih]
theorem chg_all {Q : Pr → Prop} {f : Pr → Pr} (hf : ∀ p, Q p → Q (f p)) (id : Int) : ∀ l : List Pr, (∀ p ∈ l, Q p) → ∀ p ∈ chg l id f, Q p
  | [], h => h
  | q :: l, h => by
    have ih := chg_all hf id l (fun p hp => h p (List.mem_cons_of_mem _ hp))
    intro p hp
    unfold chg at hp
    split at hp
    · rcases List.mem_cons.1 hp with rfl | hp
      · exact hf q (h q (by simp))
      · exact h p (List.mem_cons_of_mem _ hp)
    · rcases List.mem_cons.1 hp with rfl | hp
      · exact h _ (by simp)
      · exact ih p hp
theorem lateL_ids {c p : Int} : ∀ {ks : List Int} {l : List Pr} {m : List (Int × Int)}, (lateL c p ks l m).1.map (·.id) = l.map (·.id)
  | [], _, _ => rfl
  | id :: ks, l, m => by
    have h2 : (lateS c p (l, m) id).1.map (·.id) = l.map (·.id) := by
      unfold lateS; split
      · rfl
      · exact chg_ids _ sus1_id _ _
    exact (lateL_ids (c := c) (p := p) (ks := ks) (l := (lateS c p (l, m) id).1) (m := (lateS c p (l, m) id).2)).trans h2
theorem lateL_all {Q : Pr → Prop} (hf : ∀ p, Q p → Q (sus1 p)) {c p : Int} : ∀ {ks : List Int} {l : List Pr} {m : List (Int × Int)}, (∀ p ∈ l, Q p) → ∀ q ∈ (lateL c p ks l m).1, Q q
  | [], _, _, h => h
  | id :: ks, l, m, h => by
    have h2 : ∀ q ∈ (lateS c p (l, m) id).1, Q q := by
      unfold lateS; split
      · exact h
      · exact chg_all hf _ _ h
    exact lateL_all hf (c := c) (p := p) (ks := ks) (l := (lateS c p (l, m) id).1) (m := (lateS c p (l, m) id).2) h2
theorem lateL_find {c p q : Int} : ∀ {ks : List Int} {l : List Pr} {m : List (Int × Int)}, q ∉ ks → pfind (lateL c p ks l m).1 q = pfind l q
  | [], _, _, _ => rfl
  | id :: ks, l, m, h => by
    have hq : ¬ q = id := fun e => h (by simp [e])
    have h2 : pfind (lateS c p (l, m) id).1 q = pfind l q := by
      unfold lateS; split
      · rfl
      · rw [chg_find _ sus1_id, if_neg hq]
    exact (lateL_find (c := c) (p := p) (ks := ks) (l := (lateS c p (l, m) id).1) (m := (lateS c p (l, m) id).2) (fun h' => h (by simp [h']))).trans h2
theorem tickN_ids (S : WS) (l : List Pr) (now : Int) : (tickN S l now).map (·.id) = l.map (·.id) := (chg_ids _ ref1_id _ _).trans lateL_ids
theorem tickN_all {Q : Pr → Prop} (h1 : ∀ p, Q p → Q (sus1 p)) (h2 : ∀ p, Q p → Q (ref1 p)) {S : WS} {l : List Pr} {now : Int} (h : ∀ p ∈ l, Q p) : ∀ p ∈ tickN S l now, Q p := chg_all h2 _ _ (lateL_all h1 h)
theorem tickN_own {S : WS} {l : List Pr} {now : Int} (h : ∀ e ∈ S.waits, e.1 ≠ S.own) : pfind (tickN S l now) S.own = (pfind l S.own).map ref1 := by
  unfold tickN
  rw [chg_find _ ref1_id, if_pos rfl]
  congr 1
  refine lateL_find (fun hx => ?_)
  obtain ⟨e, he, hee⟩ := List.mem_map.1 ((List.mergeSort_perm _ _).mem_iff.1 hx)
  exact h e he hee

/-! ### the result -/
theorem tick_next (S : WS) (l : List Pr) (now draw : Int) : (tick S l now draw).1.2.2 = tickN S l now := by
  unfold tick; split
  · rfl
  · cases tickR S l now draw <;> rfl
theorem tick_ask {S : WS} {l : List Pr} {now draw : Int} (h : (tick S l now draw).1.2.1 = true) : (tick S l now draw).1.1 ∈ others (tickN S l now) S.own := by
  unfold tick at h ⊢
  split at h
  · cases h
  · rename_i hn
    rw [if_neg hn]
    cases hr : tickR S l now draw with
    | nil => rw [hr] at h; cases h
    | cons a r =>
      have : a ∈ tickR S l now draw := by rw [hr]; simp
      exact againL_mem this
theorem tick_zero {S : WS} {l : List Pr} {now draw : Int} (h : (tick S l now draw).1.2.1 = false) : (tick S l now draw).1.1 = 0 := by
  unfold tick at h ⊢
  split
  · rfl
  · rename_i hn
    rw [if_neg hn] at h
    cases hr : tickR S l now draw with
    | nil => rfl
    | cons a r => rw [hr] at h; cases h
theorem againL_nil {S : WS} {l : List Pr} {draw : Int} : againL S l draw = [] ↔ others l S.own = [] := by
  constructor
  · intro h
    unfold againL at h
    split at h
    · rename_i hc
      rcases hc with hc | hc
      · exact absurd h hc
      · exact hc
    · rename_i hc
      have hl : (rot (others l S.own) draw).length = 0 := by rw [h]; rfl
      unfold rot at hl
      rw [List.length_append, List.length_drop, List.length_take] at hl
      generalize (max draw 0).toNat % (others l S.own).length = t at hl
      exact List.eq_nil_of_length_eq_zero (by omega)
  · intro h
    unfold againL
    rw [h]
    simp
theorem tick_ok {S : WS} {l : List Pr} {now draw : Int} : (tick S l now draw).1.2.1 = (!decide (max S.clock now < S.due) && !decide (others (tickN S l now) S.own = [])) := by
  unfold tick
  split
  · rename_i h; simp [h]
  · rename_i h
    have hn : tickR S l now draw = [] ↔ others (tickN S l now) S.own = [] := againL_nil
    cases hr : tickR S l now draw with
    | nil => simp [h, hn.1 hr]
    | cons a r =>
      have : ¬ others (tickN S l now) S.own = [] := fun e => by rw [hn.2 e] at hr; cases hr
      simp [h, this]
theorem tick_fix (S : WS) (l : List Pr) (now draw : Int) : (tick S l now draw).2.own = S.own ∧ (tick S l now draw).2.period = S.period ∧ (tick S l now draw).2.patience = S.patience ∧ (tick S l now draw).2.clock = max S.clock now ∧ (tick S l now draw).2.due = if max S.clock now < S.due then S.due else max S.clock now + S.period := by
  unfold tick
  split
  · exact ⟨rfl, rfl, rfl, rfl, rfl⟩
  · cases tickR S l now draw <;> exact ⟨rfl, rfl, rfl, rfl, rfl⟩
theorem mput_mem {m : List (Int × Int)} {k v : Int} {e : Int × Int} (h : e ∈ mput m k v) : e ∈ m ∨ e = (k, v) := by
  induction m with
  | nil => simp [mput] at h; exact .inr h
  | cons p m ih =>
    unfold mput at h
    split at h
    · rcases List.mem_cons.1 h with h | h
      · exact .inr h
      · exact .inl (List.mem_cons_of_mem _ h)
    · rcases List.mem_cons.1 h with h | h
      · exact .inl (by simp [h])
      · rcases ih h with h | h
        · exact .inl (List.mem_cons_of_mem _ h)
        · exact .inr h
theorem mput_keys {m : List (Int × Int)} {k v : Int} (h : (m.map (·.1)).Nodup) : ((mput m k v).map (·.1)).Nodup ∧ (mput m k v).length ≤ m.length + 1 := by
  induction m with
  | nil => simp [mput]
  | cons p m ih =>
    simp only [List.map_cons, List.nodup_cons] at h
    obtain ⟨i1, i2⟩ := ih h.2
    unfold mput
    split
    · rename_i hk
      have : p.1 = k := by simpa using hk
      subst this
      exact ⟨by simpa using h, by simp⟩
    · rename_i hk
      refine ⟨?_, by simpa using i2⟩
      simp only [List.map_cons, List.nodup_cons]
      refine ⟨fun hx => ?_, i1⟩
      obtain ⟨e, he, hee⟩ := List.mem_map.1 hx
      rcases mput_mem he with he | he
      · exact h.1 (by rw [← hee]; exact List.mem_map.2 ⟨e, he, rfl⟩)
      · subst he; exact hk (by simpa using hee.symm)
theorem tick_waits {S : WS} {l : List Pr} {now draw : Int} {e : Int × Int} (h : e ∈ (tick S l now draw).2.waits) : e ∈ S.waits ∨ (e.1 ∈ others (tickN S l now) S.own ∧ e.2 = max S.clock now) := by
  have hs : (tickL S l now).2.Sublist S.waits := lateL_sub
  unfold tick at h
  split at h
  · exact .inl (hs.subset h)
  · cases hr : tickR S l now draw with
    | nil => rw [hr] at h; exact .inl (hs.subset h)
    | cons a r =>
      rw [hr] at h
      have h : e ∈ tickW S l now a := h
      unfold tickW at h
      split at h
      · exact .inl (hs.subset h)
      · rcases mput_mem h with h | h
        · exact .inl (hs.subset h)
        · subst h
          exact .inr ⟨againL_mem (show a ∈ tickR S l now draw by rw [hr]; simp), rfl⟩
theorem mem_len (l : List Pr) : (mem l).length ≤ l.length := by unfold mem; rw [List.length_map]; exact List.length_filter_le _ _
theorem tick_wok {n : Nat} {S : WS} {l : List Pr} {now draw : Int} (h : WOk n S) (hl : POk l) (hll : l.length ≤ 1000) (hn : now ≤ 1000000) : WOk (n + 1) (tick S l now draw).2 := by
  have hs : (tickL S l now).2.Sublist S.waits := lateL_sub
  have hc := h.clock
  obtain ⟨f1, f2, f3, f4, f5⟩ := tick_fix S l now draw
  have hnd : ((tickL S l now).2.map (·.1)).Nodup := (hs.map _).nodup h.nd
  have hlen : (tickL S l now).2.length ≤ n := Nat.le_trans hs.length_le h.len
  have hol : (others (tickN S l now) S.own).length ≤ 1000 := Nat.le_trans (List.length_filter_le _ _) (Nat.le_trans (mem_len _) (by rw [tickN_len]; exact hll))
  have hrl : (tickR S l now draw).length ≤ 1000 := by
    unfold tickR againL
    split
    · exact Nat.le_trans (List.length_filter_le _ _) h.rlen
    · unfold rot; rw [List.length_append, List.length_drop, List.length_take]
      have : (others (tickN S l now) (tick2 S l now).own).length ≤ 1000 := hol
      generalize (max draw 0).toNat % (others (tickN S l now) (tick2 S l now).own).length = t
      omega
  refine ⟨by rw [f1]; exact h.own, by rw [f2]; exact h.period, by rw [f3]; exact h.patience, by rw [f4]; omega, ?_, ?_, ?_, ?_, ?_⟩
  · intro e he
    rcases tick_waits he with h1 | ⟨h1, h2⟩
    · exact h.waits e h1
    · have := mem_bd (tickN_pok hl) (others_mem h1).1
      omega
  · unfold tick
    split
    · exact hnd
    · cases tickR S l now draw with
      | nil => exact hnd
      | cons a r =>
        show ((tickW S l now a).map (·.1)).Nodup
        unfold tickW; split
        · exact hnd
        · exact (mput_keys hnd).1
  · unfold tick
    split
    · show (tickL S l now).2.length ≤ n + 1; omega
    · cases tickR S l now draw with
      | nil => show (tickL S l now).2.length ≤ n + 1; omega
      | cons a r =>
        show (tickW S l now a).length ≤ n + 1
        unfold tickW; split
        · omega
        · have := (mput_keys (k := a) (v := max S.clock now) hnd).2; omega
  · intro x hx
    unfold tick at hx
    split at hx
    · exact h.round x hx
    · cases hr : tickR S l now draw with
      | nil => rw [hr] at hx; exact absurd hx (by simp)
      | cons a r =>
        rw [hr] at hx
        exact tickR_bd hl (show x ∈ tickR S l now draw by rw [hr]; exact List.mem_cons_of_mem _ hx)
  · unfold tick
    split
    · exact h.rlen
    · cases hr : tickR S l now draw with
      | nil => show ([] : List Int).length ≤ 1000; simp
      | cons a r => rw [hr] at hrl; show r.length ≤ 1000; simp at hrl; omega
end Go.Proofs.Ytlamhobkmknnpaa
