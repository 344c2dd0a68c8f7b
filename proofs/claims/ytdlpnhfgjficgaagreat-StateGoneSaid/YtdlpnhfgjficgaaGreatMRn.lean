/- How much readers eat: of few bytes a small bag is read; a state's size behind a record. Joins of queues and of peers that are few: in whatever order, and again. Records of bags, queues and peers, applied: in whatever order, and again. What a removal leaves, and what joins with it have: plain words (BagLess, BagGone). StateGone in plain words: what a bag has seen stays seen, what it has removed is there no more. -/
import Derived.Test.YtdlpnhfgjficgaaGreatMAb
import Derived.Test.YtdlpnhfgjficgaaGreatMWb
import Derived.Test.YtdlpnhfgjficgaaGreatMAp
import Derived.Test.YtdlpnhfgjficgaaGreatMJm
import Derived.Test.YtdlpnhfgjficgaaGreatMSa
namespace Go.Proofs.YtdlpnhfgjficgaaGreat
open Go.RowKit Go.Maps

def Eats {α : Type} (f : RS → α × RS) (c : Nat) : Prop := ∀ s r, (f s).2 = some r → ∃ l, s = some l ∧ r.length + c ≤ l.length
theorem rdg_eats : ∀ (f n : Nat) (l : List UInt8) (m : Nat) (r : List UInt8), rdg f n l = some (m, r) → r.length + 1 ≤ l.length := by
  intro f
  induction f with
  | zero => intro n l m r h; simp [rdg] at h
  | succ f ih =>
    intro n l m r h
    cases l with
    | nil => simp [rdg] at h
    | cons c l =>
      rw [rdg] at h
      split at h
      · cases h
      · split at h
        · simp only [Option.some.injEq, Prod.mk.injEq] at h
          rw [← h.2]; simp
        · have := ih _ _ _ _ h
          simp only [List.length_cons]; omega
theorem eats_num : Eats rdNum 1 := by
  intro s r h
  cases s with
  | none => simp [rdNum] at h
  | some l =>
    refine ⟨l, rfl, ?_⟩
    unfold rdNum at h
    dsimp only at h
    split at h
    · cases h
    · rename_i n r' e
      simp only [Option.some.injEq] at h
      subst h
      unfold rnumL at e
      split at e
      · cases e
      · exact rdg_eats _ _ _ _ _ e
theorem eats_int (most : Int) : Eats (rdInt most) 1 := by
  intro s r h
  unfold rdInt at h
  split at h
  · cases h
  · rename_i n r' e
    split at h
    · cases h
    · simp only [Option.some.injEq] at h
      subst h
      exact eats_num s r' (by rw [e])
theorem eats_text (most : Int) : Eats (rdText most) 1 := by
  intro s r h
  unfold rdText at h
  split at h
  · cases h
  · rename_i n r' e
    split at h
    · cases h
    · simp only [Option.some.injEq] at h
      obtain ⟨l, h1, h2⟩ := eats_int most s r' (by rw [e])
      refine ⟨l, h1, ?_⟩
      rw [← h, List.length_drop]; omega
theorem eats_then {α β : Type} {f : RS → α × RS} {g : RS → β × RS} {c d : Nat} (hf : Eats f c) (hg : Eats g d) {s : RS} {r : List UInt8} (h : (g (f s).2).2 = some r) : ∃ l, s = some l ∧ r.length + (c + d) ≤ l.length := by
  obtain ⟨l1, e1, h1⟩ := hg _ _ h
  obtain ⟨l, e, h2⟩ := hf _ _ e1
  exact ⟨l, e, by omega⟩
theorem eats_dot : Eats rdDot 2 := by
  intro s r h
  unfold rdDot at h
  split at h
  · cases h
  · rename_i y r' e
    split at h
    · simp only [Option.some.injEq] at h
      subst h
      exact eats_then (eats_int M40) (eats_int M40) (by rw [e])
    · cases h
theorem eats_msg : Eats rdMsg 5 := by
  intro s r h
  have h' : (rdInt 1048576 (rdText 1000 (rdText 1000 (rdDot s).2).2).2).2 = some r := h
  obtain ⟨l1, e1, h1⟩ := eats_int _ _ _ h'
  obtain ⟨l2, e2, h2⟩ := eats_text _ _ _ e1
  obtain ⟨l3, e3, h3⟩ := eats_text _ _ _ e2
  obtain ⟨l4, e4, h4⟩ := eats_dot _ _ e3
  exact ⟨l4, e4, by omega⟩
theorem eats_items {α : Type} {f : RS → α × RS} {c : Nat} (hf : Eats f c) : ∀ (k : Nat) (acc : List α) (s : RS) (l : List α) (r : List UInt8), rdItems f k acc s = (l, some r) → ∃ t, s = some t ∧ r.length + c * l.length ≤ t.length + c * acc.length
  | 0, acc, s, l, r, h => by
    simp only [rdItems, Prod.mk.injEq] at h
    exact ⟨r, h.2, by rw [h.1]; omega⟩
  | k + 1, acc, s, l, r, h => by
    rw [rdItems] at h
    split at h
    · cases h
    · rename_i x r' e
      obtain ⟨t, e1, h1⟩ := eats_items hf k _ _ _ _ h
      obtain ⟨u, e2, h2⟩ := hf s r' (by rw [e])
      simp only [Option.some.injEq] at e1
      subst e1
      refine ⟨u, e2, ?_⟩
      rw [List.length_append, Nat.mul_add] at h1
      simp only [List.length_cons, List.length_nil] at h1
      omega
theorem rdRow_eats (most : Int) (s : RS) (r : List UInt8) (h : (rdRow most s).2 = some r) : ∃ t, s = some t ∧ r.length + 2 * (rdRow most s).1.length ≤ t.length := by
  unfold rdRow at h ⊢
  split at h
  · cases h
  · rename_i l r' e
    split at h
    · rename_i hb
      simp only [Option.some.injEq] at h
      subst h
      obtain ⟨t, e1, h1⟩ := eats_items eats_dot _ _ _ _ _ e
      obtain ⟨u, e2, h2⟩ := eats_int _ _ _ e1
      rw [if_pos hb]
      refine ⟨u, e2, ?_⟩
      simp only [List.length_nil] at h1
      dsimp only
      omega
    · cases h
theorem rdCtx_eats (s : RS) (r : List UInt8) (h : (rdCtx s).2 = some r) : ∃ t, s = some t ∧ r.length + 2 * ((rdCtx s).1.1.length + (rdCtx s).1.2.length) ≤ t.length := by
  unfold rdCtx at h ⊢
  split at h
  · cases h
  · rename_i C r' e
    split at h
    · rename_i hb
      simp only [Option.some.injEq] at h
      subst h
      obtain ⟨t, e1, h1⟩ := rdRow_eats 1000 (rdRow 1000 s).2 r' (by rw [e])
      obtain ⟨u, e2, h2⟩ := rdRow_eats 1000 s t e1
      rw [if_pos hb]
      rw [e] at h1
      dsimp only at h1 ⊢
      exact ⟨u, e2, by omega⟩
    · cases h
theorem rdBag_size (l : List UInt8) (s : RS) (hs : ∀ t, s = some t → t.length ≤ l.length) : (rdBag s).1.1.length ≤ l.length / 2 ∧ (rdBag s).1.2.1.length + (rdBag s).1.2.2.length ≤ l.length / 2 := by
  unfold rdBag
  split
  · simp
  · rename_i m r e
    split
    · dsimp only
      obtain ⟨t, e1, h1⟩ := eats_items eats_msg _ _ _ _ _ e
      obtain ⟨u, e2, h2⟩ := eats_int _ _ _ e1
      obtain ⟨v, e3, h3⟩ := rdCtx_eats _ _ e2
      have := hs v e3
      simp only [List.length_nil] at h1
      omega
    · simp
theorem rdJ_size (l : List UInt8) (hl : l.length ≤ 60) : BN 30 (rdJ l).2.1 := by
  have h := rdBag_size l (rdInt 15 (some l)).2 (fun t ht => by
    obtain ⟨u, e, h⟩ := eats_int 15 (some l) t ht
    simp only [Option.some.injEq] at e
    subst e; omega)
  exact ⟨rdBag_ok _, by show (rdBag _).1.1.length ≤ 30; omega, by show (rdBag _).1.2.1.length + (rdBag _).1.2.2.length ≤ 30; omega⟩
theorem rdJ_text {k : Nat} {g : Bag} (hk : k < 16) (hg : BN 1000 g) : rdJ (num k ++ bagB g) = (k, g, some []) := by
  have hc := hg.c
  have h1 : rdInt 15 (some (num k ++ bagB g)) = ((k : Int), some (bagB g)) := rdInt_num 15 k (by omega) (by omega) _
  have h2 : rdBag (some (bagB g ++ [])) = (g, some []) := rdBag_bytes hg.v hg.l (by omega) (by omega) []
  rw [List.append_nil] at h2
  unfold rdJ
  rw [h1]
  dsimp only
  rw [h2, Int.toNat_natCast]
theorem rpart_lt (x : Rc) : rpart x < 16 := by
  have := andK x.p 15 (by decide)
  unfold rpart; omega
/-- A record by numbers brings a small bag. -/
theorem bsz_text (x : Rc) : BN 30 (bsz (rtext x)) := by
  have h0 : BN 30 nb := BN.nil.mono (by decide)
  have h7 : (x.raw.take 60).length ≤ 60 := by rw [List.length_take]; omega
  unfold rtext
  split
  · exact h0
  · split
    · exact h0
    · split
      · show BN 30 (rdJ _).2.1
        rw [rdJ_text (rpart_lt x) ((rbag_ok x).mono (by decide))]
        exact (rbag_ok x).mono (by decide)
      · split
        · exact h0
        · split
          · exact h0
          · split
            · exact h0
            · unfold bsz
              split
              · exact h0
              · rename_i c l e
                split
                · refine rdJ_size l ?_
                  rw [e] at h7
                  simp only [List.length_cons] at h7; omega
                · exact h0
/-- What may be stays so. -/
theorem SOk.appl {M c : Nat} {S : SD} (h : SOk M S) {t : List UInt8} (hr : BN c (bsz t)) : SOk (M + c) (appl S t).1 := by
  have hm := fun p => (h.bag p).mono (Nat.le_add_right M c)
  have hs : SOk (M + c) S := ⟨h.id0, h.id1, h.up0, h.up1, h.bn, hm, h.tags, h.view, h.holds⟩
  cases t with
  | nil => exact hs
  | cons k l =>
    have hb := rdInt_bd 1099511627776 (some l)
    have hb2 := hb.2 (by decide)
    unfold Go.Proofs.YtdlpnhfgjficgaaGreat.appl
    dsimp only
    split
    · unfold apI
      split
      · exact hs
      · split
        · exact hs
        · exact ⟨hb.1, hb2, h.up0, h.up1, h.bn, hm, h.tags, h.view, h.holds⟩
    · split
      · unfold apR
        split
        · exact hs
        · refine ⟨h.id0, h.id1, ?_, ?_, h.bn, hm, h.tags, h.view, h.holds⟩
          · have := h.up0; dsimp only; omega
          · have := h.up1; dsimp only; omega
      · split
        · rename_i hk
          unfold apB
          split
          · have hg : BN c (rdJ l).2.1 := by
              have := hr
              unfold bsz at this
              dsimp only at this
              rwa [if_pos hk] at this
            refine ⟨h.id0, h.id1, h.up0, h.up1, by simpa using h.bn, fun p => ?_, h.tags, h.view, h.holds⟩
            show BN (M + c) ((S.bags.set _ _).getD p nb)
            rw [set3_getD h.bn (rdJ_bd l)]
            split
            · exact (h.bag _).join hg
            · exact hm p
          · exact hs
        · split
          · unfold apN
            split
            · exact ⟨h.id0, h.id1, h.up0, h.up1, h.bn, hm, h.tags.join (rdTags_ok _), h.view, h.holds⟩
            · exact hs
          · split
            · unfold apV
              split
              · exact ⟨h.id0, h.id1, h.up0, h.up1, h.bn, hm, h.tags, h.view.join (rdView_ok _), h.holds⟩
              · exact hs
            · split
              · unfold apH
                split
                · exact ⟨h.id0, h.id1, h.up0, h.up1, h.bn, hm, h.tags, h.view, rdHolds_ok _⟩
                · exact hs
              · exact hs
end Go.Proofs.YtdlpnhfgjficgaaGreat

namespace Go.Proofs.YtdlpnhfgjficgaaGreat
open Go.RowKit Go.Maps

def q4 : List (List UInt8) := [[97], [98], [99], [100]]
/-- Queues by a letter. -/
structure T4 (l : List Tag) : Prop where
  v : TV l
  q : ∀ t ∈ l, t.1 ∈ q4
theorem tmrg4_len {a b : List Tag} (ha : T4 a) (hb : T4 b) : (tmrg a b).length ≤ 100 := by
  have hr := tmrg_rise a b ha.v.r hb.v.r
  have hnd : ((tmrg a b).map (·.1)).Nodup := by
    have : ((tmrg a b).map (·.1)).Pairwise (fun x y => x ≠ y) := by
      rw [List.pairwise_map]
      exact List.Pairwise.imp (R := fun x y : Tag => TL x.1 y.1) (fun {x y} h (e : x.1 = y.1) => TL.irr y.1 (e ▸ h)) hr
    exact this
  have := nodup_sub_len hnd (k := q4) (fun s hs => by
    obtain ⟨t, ht, rfl⟩ := List.mem_map.1 hs
    obtain ⟨u, hu, e⟩ := tmrg_from a b t ht
    rw [← e]
    exact hu.elim (ha.q u) (hb.q u))
  simp [q4] at this
  omega
theorem tjoin4 {a b : List Tag} (ha : T4 a) (hb : T4 b) : tjoin a b = tmrg a b := by
  show (tmrg a b).take 100 = _
  exact List.take_of_length_le (tmrg4_len ha hb)
theorem T4.join {a b : List Tag} (ha : T4 a) (hb : T4 b) : T4 (tjoin a b) := by
  refine ⟨ha.v.join hb.v, fun t ht => ?_⟩
  rw [tjoin4 ha hb] at ht
  obtain ⟨u, hu, e⟩ := tmrg_from a b t ht
  rw [← e]
  exact hu.elim (ha.q u) (hb.q u)
/-- Peers of a number from 1 to 4. -/
structure V4 (l : List Pr) : Prop where
  v : VV l
  q : ∀ p ∈ l, 1 ≤ p.id ∧ p.id ≤ 4
theorem vfold_from : ∀ (b a : List Pr), ∀ x ∈ vfold a b, ∃ y, (y ∈ a ∨ y ∈ b) ∧ y.id = x.id
  | [], a, x, h => ⟨x, .inl h, rfl⟩
  | p :: b, a, x, h => by
    obtain ⟨y, hy, e⟩ := vfold_from b (pins p a) x h
    rcases hy with hy | hy
    · rcases pins_mem p a y hy with e2 | ⟨z, hz, e2⟩
      · exact ⟨p, .inr (by simp), by rw [← e, e2]⟩
      · exact ⟨z, .inl hz, by rw [e2, e]⟩
    · exact ⟨y, .inr (List.mem_cons_of_mem _ hy), e⟩
theorem vfold4_len {a b : List Pr} (ha : V4 a) (hb : V4 b) : (vfold a b).length ≤ 64 := by
  have hr := (vfold_spec b a ha.v.r hb.v.r).1
  have hnd : ((vfold a b).map (·.id)).Nodup := by
    have : ((vfold a b).map (·.id)).Pairwise (fun x y => x ≠ y) := by
      rw [List.pairwise_map]
      exact List.Pairwise.imp (R := fun x y : Pr => x.id < y.id) (fun {x y} h (e : x.id = y.id) => by omega) hr
    exact this
  have := nodup_sub_len hnd (k := [1, 2, 3, 4]) (fun s hs => by
    obtain ⟨t, ht, rfl⟩ := List.mem_map.1 hs
    obtain ⟨u, hu, e⟩ := vfold_from b a t ht
    have := hu.elim (ha.q u) (hb.q u)
    simp only [List.mem_cons, List.not_mem_nil, or_false]
    omega)
  simp at this
  omega
theorem vjoin4 {a b : List Pr} (ha : V4 a) (hb : V4 b) : vjoin a b = vfold a b := List.take_of_length_le (vfold4_len ha hb)
theorem V4.join {a b : List Pr} (ha : V4 a) (hb : V4 b) : V4 (vjoin a b) := by
  refine ⟨ha.v.join hb.v, fun t ht => ?_⟩
  rw [vjoin4 ha hb] at ht
  obtain ⟨u, hu, e⟩ := vfold_from b a t ht
  rw [← e]
  exact hu.elim (ha.q u) (hb.q u)
end Go.Proofs.YtdlpnhfgjficgaaGreat

namespace Go.Proofs.YtdlpnhfgjficgaaGreat
open Go.RowKit Go.Maps

/-- What records by numbers keep. -/
structure SI (S : SD) : Prop where
  bn : S.bags.length = 16
  bag : ∀ p, BV (S.bags.getD p nb)
  tags : T4 S.tags
  view : V4 S.view
def actB (p : Nat) (g : Bag) (S : SD) : SD := { S with bags := S.bags.set p (bjoin (S.bags.getD p nb) g) }
theorem appl_B {x : Rc} (h : K7 x = 2 ∨ K7 x = 3) (S : SD) : appl S (rtext x) = (actB (rpart x) (rbag x) S, 0) := by
  have ht : rtext x = 66 :: (num (rpart x) ++ bagB (rbag x)) := by unfold rtext; rw [if_neg (by omega), if_neg (by omega), if_pos h]
  rw [ht]
  show apB S _ = _
  unfold apB
  rw [rdJ_text (rpart_lt x) ((rbag_ok x).mono (by decide)), if_pos rfl]
  rfl
theorem SI.zero : SI S0 := by
  refine ⟨rfl, fun p => ?_, ⟨TV.nil, by simp [S0]⟩, ⟨VV.nil, by simp [S0]⟩⟩
  have : S0.bags.getD p nb = nb := nb_get 16 p
  rw [this]; exact BV.nil
theorem SI.actB {S : SD} (h : SI S) {p : Nat} {g : Bag} (hp : p < 16) (hg : BV g) : SI (actB p g S) := by
  refine ⟨by show (S.bags.set _ _).length = 16; simpa using h.bn, fun q => ?_, h.tags, h.view⟩
  show BV ((S.bags.set _ _).getD q nb)
  rw [set3_getD h.bn hp]
  split
  · exact (h.bag p).join hg
  · exact h.bag q
end Go.Proofs.YtdlpnhfgjficgaaGreat

namespace Go.Proofs.YtdlpnhfgjficgaaGreat
open Go.RowKit Go.Maps

theorem lget_filter (l : List Msg) (d e : Dot) : lget (l.filter fun m => !decide (m.1 = d)) e = if e = d then none else lget l e := by
  induction l with
  | nil => simp [lget]
  | cons m r ih =>
    by_cases h : m.1 = d
    · rw [List.filter_cons_of_neg (by simp [h]), ih]
      by_cases he : e = d
      · rw [if_pos he, if_pos he]
      · rw [if_neg he, if_neg he]
        show lget r e = lget (m :: r) e
        rw [lget_cons, if_neg (by rw [h]; exact fun x => he x.symm)]
    · rw [List.filter_cons_of_pos (by simp [h]), lget_cons, ih, lget_cons]
      by_cases he : e = d
      · subst he; rw [if_neg h, if_pos rfl]; simp
      · rw [if_neg he, if_neg he]
theorem lget_remove (g : Bag) (d e : Dot) : lget (bremove g d).1 e = if e = d then none else lget g.1 e := lget_filter g.1 d e
theorem has_remove {U : List Dot} {g : Bag} (h : BOk U g) {d : Dot} (hd : dchk d = true) (e : Dot) : chas (bremove g d).2.1 (bremove g d).2.2 e = (chas g.2.1 g.2.2 e || decide (e = d)) := by
  show chas (Ad g.2 [d]).1 (Ad g.2 [d]).2 e = _
  rw [Ad.has h.ok]
  congr 1
  by_cases he : e = d
  · subst he; simp [hd]
  · simp [he]
/-- What is removed is there in no join. -/
theorem gone_left {U : List Dot} {g h : Bag} (hg : BOk U g) (hh : BOk U h) {d : Dot} (h1 : chas g.2.1 g.2.2 d = true) (h2 : lget g.1 d = none) : lget (bjoin g h).1 d = none := by
  rw [bjoin_get hg hh, h1, h2]
  unfold jof
  cases lget h.1 d <;> rfl
theorem gone_right {U : List Dot} {g h : Bag} (hg : BOk U g) (hh : BOk U h) {d : Dot} (h1 : chas h.2.1 h.2.2 d = true) (h2 : lget h.1 d = none) : lget (bjoin g h).1 d = none := by
  rw [bjoin_comm hg hh]
  exact gone_left hh hg h1 h2
end Go.Proofs.YtdlpnhfgjficgaaGreat

namespace Go.Proofs.YtdlpnhfgjficgaaGreat
open Go.RowKit Go.Maps

def Sees (g h : Bag) : Prop := ∀ d, chas g.2.1 g.2.2 d = true → chas h.2.1 h.2.2 d = true
theorem Sees.self (g : Bag) : Sees g g := fun _ h => h
theorem Sees.trans {a b c : Bag} (h : Sees a b) (k : Sees b c) : Sees a c := fun d hd => k d (h d hd)
theorem Sees.cov {g h : Bag} (hg : BV g) (hh : BV h) (s : Sees g h) : ccov h.2.1 h.2.2 g.2.1 g.2.2 = true := by
  rw [ccov_eq h.2 g.2]
  simp only [decide_eq_true_eq]
  exact ctx_eq (Jn.ok hh.ok hg.ok) hh.ok (fun d => by
    rw [Jn.has hh.ok hg.ok]
    cases e : chas g.2.1 g.2.2 d
    · rw [Bool.or_false]
    · rw [s d e]; rfl)
def Gn (d : Dot) (g : Bag) : Prop := chas g.2.1 g.2.2 d = true ∧ lget g.1 d = none
theorem Gn.left {d : Dot} {g h : Bag} (hg : BV g) (hh : BV h) (k : Gn d g) : Gn d (bjoin g h) := ⟨by rw [bjoin_has hg.all hh.all, k.1]; rfl, gone_left hg.all hh.all k.1 k.2⟩
theorem Gn.right {d : Dot} {g h : Bag} (hg : BV g) (hh : BV h) (k : Gn d h) : Gn d (bjoin g h) := ⟨by rw [bjoin_has hg.all hh.all, k.1, Bool.or_true], gone_right hg.all hh.all k.1 k.2⟩
theorem Sees.join {g h : Bag} (hg : BV g) (hh : BV h) : Sees g (bjoin g h) := fun d hd => by rw [bjoin_has hg.all hh.all, hd]; rfl
/-- Where a record leaves a part's bag: as it was, or joined with one that may be. -/
theorem appl_bag {M c : Nat} {S : SD} (h : SOk M S) {t : List UInt8} (hr : BN c (bsz t)) (p : Nat) : (appl S t).1.bags.getD p nb = S.bags.getD p nb ∨ ∃ g, BV g ∧ (appl S t).1.bags.getD p nb = bjoin (S.bags.getD p nb) g := by
  cases t with
  | nil => exact .inl rfl
  | cons k l =>
    unfold appl
    dsimp only
    split
    · exact .inl rfl
    · split
      · exact .inl rfl
      · split
        · rename_i hk
          unfold apB
          split
          · have hg : BN c (rdJ l).2.1 := by
              have := hr
              unfold bsz at this
              dsimp only at this
              rwa [if_pos hk] at this
            show (S.bags.set _ _).getD p nb = _ ∨ _
            dsimp only
            rw [set3_getD h.bn (rdJ_bd l)]
            split
            · rename_i hp
              exact .inr ⟨_, hg.v, by rw [hp]⟩
            · exact .inl rfl
          · exact .inl rfl
        · split
          · unfold apN
            split <;> exact .inl rfl
          · split
            · unfold apV
              split <;> exact .inl rfl
            · split
              · unfold apH
                split <;> exact .inl rfl
              · exact .inl rfl
theorem appl_sees {M c : Nat} {S : SD} (h : SOk M S) {t : List UInt8} (hr : BN c (bsz t)) (p : Nat) : Sees (S.bags.getD p nb) ((appl S t).1.bags.getD p nb) := by
  rcases appl_bag h hr p with e | ⟨g, hg, e⟩
  · rw [e]; exact Sees.self _
  · rw [e]; exact Sees.join (h.bag p).v hg
theorem appl_gone {M c : Nat} {S : SD} (h : SOk M S) {t : List UInt8} (hr : BN c (bsz t)) {p : Nat} {d : Dot} (k : Gn d (S.bags.getD p nb)) : Gn d ((appl S t).1.bags.getD p nb) := by
  rcases appl_bag h hr p with e | ⟨g, hg, e⟩
  · rw [e]; exact k
  · rw [e]; exact k.left (h.bag p).v hg
theorem appl_rm {M : Nat} {S : SD} (h : SOk M S) (x : Rc) (hk : K7 x = 3) : (appl S (rtext x)).2 = 0 ∧ Gn (rdot x) ((appl S (rtext x)).1.bags.getD (rpart x) nb) := by
  rw [appl_B (.inr hk)]
  refine ⟨rfl, ?_⟩
  show Gn _ ((S.bags.set _ _).getD _ nb)
  rw [set3_getD h.bn (rpart_lt x), if_pos rfl]
  refine Gn.right (h.bag _).v (rbag_ok x).v ?_
  have e : rbag x = bremove nb (rdot x) := by unfold rbag; rw [if_neg (by omega)]
  rw [e]
  exact ⟨by exact (has_remove (g := nb) BV.nil.all (rdot_chk x) _).trans (by simp), by rw [lget_remove, if_pos rfl]⟩
theorem and15 {p : Int} (h0 : 0 ≤ p) (h1 : p ≤ 15) : bits .and .i64 p 15 = p := by
  have : p = 0 ∨ p = 1 ∨ p = 2 ∨ p = 3 ∨ p = 4 ∨ p = 5 ∨ p = 6 ∨ p = 7 ∨ p = 8 ∨ p = 9 ∨ p = 10 ∨ p = 11 ∨ p = 12 ∨ p = 13 ∨ p = 14 ∨ p = 15 := by omega
  rcases this with e | e | e | e | e | e | e | e | e | e | e | e | e | e | e | e <;> subst e <;> decide
end Go.Proofs.YtdlpnhfgjficgaaGreat

