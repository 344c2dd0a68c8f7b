/- How much readers eat: of few bytes a small bag is read; a state's size behind a record. -/
import Derived.Test.YtdlpnhfgjficgaaGreatMAb
import Derived.Test.YtdlpnhfgjficgaaGreatMWb
namespace Go.Proofs.YtdlpnhfgjficgaaGreat
open Go.RowKit Go.Maps

def Eats {α : Type} (f : RS → α × RS) (c : Nat) : Prop := ∀ s r, (f s).2 = some r → ∃ l, s = some l ∧ r.length + c ≤ l.length
theorem rdg_eats : ∀ (f n : Nat) (l : List UInt8) (m : Nat) (r : List UInt8), rdg f n l = some (m, r) → r.length + 1 ≤ l.length := by
  intro f
  induction f with
  | zero => intro n l m r h; simp [rdg] at h
  | succ f ih =>
    intro n l m r h
    cases l with
    | nil => simp [rdg] at h
    | cons c l =>
      rw [rdg] at h
      split at h
      · cases h
      · split at h
        · simp only [Option.some.injEq, Prod.mk.injEq] at h
          rw [← h.2]; simp
        · have := ih _ _ _ _ h
          simp only [List.length_cons]; omega
theorem eats_num : Eats rdNum 1 := by
  intro s r h
  cases s with
  | none => simp [rdNum] at h
  | some l =>
    refine ⟨l, rfl, ?_⟩
    unfold rdNum at h
    dsimp only at h
    split at h
    · cases h
    · rename_i n r' e
      simp only [Option.some.injEq] at h
      subst h
      unfold rnumL at e
      split at e
      · cases e
      · exact rdg_eats _ _ _ _ _ e
theorem eats_int (most : Int) : Eats (rdInt most) 1 := by
  intro s r h
  unfold rdInt at h
  split at h
  · cases h
  · rename_i n r' e
    split at h
    · cases h
    · simp only [Option.some.injEq] at h
      subst h
      exact eats_num s r' (by rw [e])
theorem eats_text (most : Int) : Eats (rdText most) 1 := by
  intro s r h
  unfold rdText at h
  split at h
  · cases h
  · rename_i n r' e
    split at h
    · cases h
    · simp only [Option.some.injEq] at h
      obtain ⟨l, h1, h2⟩ := eats_int most s r' (by rw [e])
      refine ⟨l, h1, ?_⟩
      rw [← h, List.length_drop]; omega
theorem eats_then {α β : Type} {f : RS → α × RS} {g : RS → β × RS} {c d : Nat} (hf : Eats f c) (hg : Eats g d) {s : RS} {r : List UInt8} (h : (g (f s).2).2 = some r) : ∃ l, s = some l ∧ r.length + (c + d) ≤ l.length := by
  obtain ⟨l1, e1, h1⟩ := hg _ _ h
  obtain ⟨l, e, h2⟩ := hf _ _ e1
  exact ⟨l, e, by omega⟩
theorem eats_dot : Eats rdDot 2 := by
  intro s r h
  unfold rdDot at h
  split at h
  · cases h
  · rename_i y r' e
    split at h
    · simp only [Option.some.injEq] at h
      subst h
      exact eats_then (eats_int M40) (eats_int M40) (by rw [e])
    · cases h
theorem eats_msg : Eats rdMsg 5 := by
  intro s r h
  have h' : (rdInt 1048576 (rdText 1000 (rdText 1000 (rdDot s).2).2).2).2 = some r := h
  obtain ⟨l1, e1, h1⟩ := eats_int _ _ _ h'
  obtain ⟨l2, e2, h2⟩ := eats_text _ _ _ e1
  obtain ⟨l3, e3, h3⟩ := eats_text _ _ _ e2
  obtain ⟨l4, e4, h4⟩ := eats_dot _ _ e3
  exact ⟨l4, e4, by omega⟩
theorem eats_items {α : Type} {f : RS → α × RS} {c : Nat} (hf : Eats f c) : ∀ (k : Nat) (acc : List α) (s : RS) (l : List α) (r : List UInt8), rdItems f k acc s = (l, some r) → ∃ t, s = some t ∧ r.length + c * l.length ≤ t.length + c * acc.length
  | 0, acc, s, l, r, h => by
    simp only [rdItems, Prod.mk.injEq] at h
    exact ⟨r, h.2, by rw [h.1]; omega⟩
  | k + 1, acc, s, l, r, h => by
    rw [rdItems] at h
    split at h
    · cases h
    · rename_i x r' e
      obtain ⟨t, e1, h1⟩ := eats_items hf k _ _ _ _ h
      obtain ⟨u, e2, h2⟩ := hf s r' (by rw [e])
      simp only [Option.some.injEq] at e1
      subst e1
      refine ⟨u, e2, ?_⟩
      rw [List.length_append, Nat.mul_add] at h1
      simp only [List.length_cons, List.length_nil] at h1
      omega
theorem rdRow_eats (most : Int) (s : RS) (r : List UInt8) (h : (rdRow most s).2 = some r) : ∃ t, s = some t ∧ r.length + 2 * (rdRow most s).1.length ≤ t.length := by
  unfold rdRow at h ⊢
  split at h
  · cases h
  · rename_i l r' e
    split at h
    · rename_i hb
      simp only [Option.some.injEq] at h
      subst h
      obtain ⟨t, e1, h1⟩ := eats_items eats_dot _ _ _ _ _ e
      obtain ⟨u, e2, h2⟩ := eats_int _ _ _ e1
      rw [if_pos hb]
      refine ⟨u, e2, ?_⟩
      simp only [List.length_nil] at h1
      dsimp only
      omega
    · cases h
theorem rdCtx_eats (s : RS) (r : List UInt8) (h : (rdCtx s).2 = some r) : ∃ t, s = some t ∧ r.length + 2 * ((rdCtx s).1.1.length + (rdCtx s).1.2.length) ≤ t.length := by
  unfold rdCtx at h ⊢
  split at h
  · cases h
  · rename_i C r' e
    split at h
    · rename_i hb
      simp only [Option.some.injEq] at h
      subst h
      obtain ⟨t, e1, h1⟩ := rdRow_eats 1000 (rdRow 1000 s).2 r' (by rw [e])
      obtain ⟨u, e2, h2⟩ := rdRow_eats 1000 s t e1
      rw [if_pos hb]
      rw [e] at h1
      dsimp only at h1 ⊢
      exact ⟨u, e2, by omega⟩
    · cases h
theorem rdBag_size (l : List UInt8) (s : RS) (hs : ∀ t, s = some t → t.length ≤ l.length) : (rdBag s).1.1.length ≤ l.length / 2 ∧ (rdBag s).1.2.1.length + (rdBag s).1.2.2.length ≤ l.length / 2 := by
  unfold rdBag
  split
  · simp
  · rename_i m r e
    split
    · dsimp only
      obtain ⟨t, e1, h1⟩ := eats_items eats_msg _ _ _ _ _ e
      obtain ⟨u, e2, h2⟩ := eats_int _ _ _ e1
      obtain ⟨v, e3, h3⟩ := rdCtx_eats _ _ e2
      have := hs v e3
      simp only [List.length_nil] at h1
      omega
    · simp
theorem rdJ_size (l : List UInt8) (hl : l.length ≤ 60) : BN 30 (rdJ l).2.1 := by
  have h := rdBag_size l (rdInt 15 (some l)).2 (fun t ht => by
    obtain ⟨u, e, h⟩ := eats_int 15 (some l) t ht
    simp only [Option.some.injEq] at e
    subst e; omega)
  exact ⟨rdBag_ok _, by show (rdBag _).1.1.length ≤ 30; omega, by show (rdBag _).1.2.1.length + (rdBag _).1.2.2.length ≤ 30; omega⟩
theorem rdJ_text {k : Nat} {g : Bag} (hk : k < 16) (hg : BN 1000 g) : rdJ (num k ++ bagB g) = (k, g, some []) := by
  have hc := hg.c
  have h1 : rdInt 15 (some (num k ++ bagB g)) = ((k : Int), some (bagB g)) := rdInt_num 15 k (by omega) (by omega) _
  have h2 : rdBag (some (bagB g ++ [])) = (g, some []) := rdBag_bytes hg.v hg.l (by omega) (by omega) []
  rw [List.append_nil] at h2
  unfold rdJ
  rw [h1]
  dsimp only
  rw [h2, Int.toNat_natCast]
theorem rpart_lt (x : Rc) : rpart x < 16 := by
  have := andK x.p 15 (by decide)
  unfold rpart; omega
/-- A record by numbers brings a small bag. -/
theorem bsz_text (x : Rc) : BN 30 (bsz (rtext x)) := by
  have h0 : BN 30 nb := BN.nil.mono (by decide)
  have h7 : (x.raw.take 60).length ≤ 60 := by rw [List.length_take]; omega
  unfold rtext
  split
  · exact h0
  · split
    · exact h0
    · split
      · show BN 30 (rdJ _).2.1
        rw [rdJ_text (rpart_lt x) ((rbag_ok x).mono (by decide))]
        exact (rbag_ok x).mono (by decide)
      · split
        · exact h0
        · split
          · exact h0
          · split
            · exact h0
            · unfold bsz
              split
              · exact h0
              · rename_i c l e
                split
                · refine rdJ_size l ?_
                  rw [e] at h7
                  simp only [List.length_cons] at h7; omega
                · exact h0
/-- What may be stays so. -/
theorem SOk.appl {M c : Nat} {S : SD} (h : SOk M S) {t : List UInt8} (hr : BN c (bsz t)) : SOk (M + c) (appl S t).1 := by
  have hm := fun p => (h.bag p).mono (Nat.le_add_right M c)
  have hs : SOk (M + c) S := ⟨h.id0, h.id1, h.up0, h.up1, h.bn, hm, h.tags, h.view, h.holds⟩
  cases t with
  | nil => exact hs
  | cons k l =>
    have hb := rdInt_bd 1099511627776 (some l)
    have hb2 := hb.2 (by decide)
    unfold Go.Proofs.YtdlpnhfgjficgaaGreat.appl
    dsimp only
    split
    · unfold apI
      split
      · exact hs
      · split
        · exact hs
        · exact ⟨hb.1, hb2, h.up0, h.up1, h.bn, hm, h.tags, h.view, h.holds⟩
    · split
      · unfold apR
        split
        · exact hs
        · refine ⟨h.id0, h.id1, ?_, ?_, h.bn, hm, h.tags, h.view, h.holds⟩
          · have := h.up0; dsimp only; omega
          · have := h.up1; dsimp only; omega
      · split
        · rename_i hk
          unfold apB
          split
          · have hg : BN c (rdJ l).2.1 := by
              have := hr
              unfold bsz at this
              dsimp only at this
              rwa [if_pos hk] at this
            refine ⟨h.id0, h.id1, h.up0, h.up1, by simpa using h.bn, fun p => ?_, h.tags, h.view, h.holds⟩
            show BN (M + c) ((S.bags.set _ _).getD p nb)
            rw [set3_getD h.bn (rdJ_bd l)]
            split
            · exact (h.bag _).join hg
            · exact hm p
          · exact hs
        · split
          · unfold apN
            split
            · exact ⟨h.id0, h.id1, h.up0, h.up1, h.bn, hm, h.tags.join (rdTags_ok _), h.view, h.holds⟩
            · exact hs
          · split
            · unfold apV
              split
              · exact ⟨h.id0, h.id1, h.up0, h.up1, h.bn, hm, h.tags, h.view.join (rdView_ok _), h.holds⟩
              · exact hs
            · split
              · unfold apH
                split
                · exact ⟨h.id0, h.id1, h.up0, h.up1, h.bn, hm, h.tags, h.view, rdHolds_ok _⟩
                · exact hs
              · exact hs
end Go.Proofs.YtdlpnhfgjficgaaGreat
