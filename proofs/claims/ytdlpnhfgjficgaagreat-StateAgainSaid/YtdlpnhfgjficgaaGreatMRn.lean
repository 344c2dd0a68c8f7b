/- How much readers eat: of few bytes a small bag is read; a state's size behind a record. Joins of queues and of peers that are few: in whatever order, and again. Records of bags, queues and peers, applied: in whatever order, and again. ref02's SameTexts; ref06's Marks. StateCopies: the walk. -/
import Derived.Test.YtdlpnhfgjficgaaGreatMAb
import Derived.Test.YtdlpnhfgjficgaaGreatMWb
import Derived.Test.YtdlpnhfgjficgaaGreatMAp
import Derived.Test.YtdlpnhfgjficgaaGreatMSd
import Derived.Test.YtdlpnhfgjficgaaGreatMQs
import Derived.Test.YtdlpnhfgjficgaaGreatMZa
namespace Go.Proofs.YtdlpnhfgjficgaaGreat
open Go.RowKit Go.Maps

def Eats {α : Type} (f : RS → α × RS) (c : Nat) : Prop := ∀ s r, (f s).2 = some r → ∃ l, s = some l ∧ r.length + c ≤ l.length
theorem rdg_eats : ∀ (f n : Nat) (l : List UInt8) (m : Nat) (r : List UInt8), rdg f n l = some (m, r) → r.length + 1 ≤ l.length := by
  intro f
  induction f with
  | zero => intro n l m r h; simp [rdg] at h
  | succ f ih =>
    intro n l m r h
    cases l with
    | nil => simp [rdg] at h
    | cons c l =>
      rw [rdg] at h
      split at h
      · cases h
      · split at h
        · simp only [Option.some.injEq, Prod.mk.injEq] at h
          rw [← h.2]; simp
        · have := ih _ _ _ _ h
          simp only [List.length_cons]; omega
theorem eats_num : Eats rdNum 1 := by
  intro s r h
  cases s with
  | none => simp [rdNum] at h
  | some l =>
    refine ⟨l, rfl, ?_⟩
    unfold rdNum at h
    dsimp only at h
    split at h
    · cases h
    · rename_i n r' e
      simp only [Option.some.injEq] at h
      subst h
      unfold rnumL at e
      split at e
      · cases e
      · exact rdg_eats _ _ _ _ _ e
theorem eats_int (most : Int) : Eats (rdInt most) 1 := by
  intro s r h
  unfold rdInt at h
  split at h
  · cases h
  · rename_i n r' e
    split at h
    · cases h
    · simp only [Option.some.injEq] at h
      subst h
      exact eats_num s r' (by rw [e])
theorem eats_text (most : Int) : Eats (rdText most) 1 := by
  intro s r h
  unfold rdText at h
  split at h
  · cases h
  · rename_i n r' e
    split at h
    · cases h
    · simp only [Option.some.injEq] at h
      obtain ⟨l, h1, h2⟩ := eats_int most s r' (by rw [e])
      refine ⟨l, h1, ?_⟩
      rw [← h, List.length_drop]; omega
theorem eats_then {α β : Type} {f : RS → α × RS} {g : RS → β × RS} {c d : Nat} (hf : Eats f c) (hg : Eats g d) {s : RS} {r : List UInt8} (h : (g (f s).2).2 = some r) : ∃ l, s = some l ∧ r.length + (c + d) ≤ l.length := by
  obtain ⟨l1, e1, h1⟩ := hg _ _ h
  obtain ⟨l, e, h2⟩ := hf _ _ e1
  exact ⟨l, e, by omega⟩
theorem eats_dot : Eats rdDot 2 := by
  intro s r h
  unfold rdDot at h
  split at h
  · cases h
  · rename_i y r' e
    split at h
    · simp only [Option.some.injEq] at h
      subst h
      exact eats_then (eats_int M40) (eats_int M40) (by rw [e])
    · cases h
theorem eats_msg : Eats rdMsg 5 := by
  intro s r h
  have h' : (rdInt 1048576 (rdText 1000 (rdText 1000 (rdDot s).2).2).2).2 = some r := h
  obtain ⟨l1, e1, h1⟩ := eats_int _ _ _ h'
  obtain ⟨l2, e2, h2⟩ := eats_text _ _ _ e1
  obtain ⟨l3, e3, h3⟩ := eats_text _ _ _ e2
  obtain ⟨l4, e4, h4⟩ := eats_dot _ _ e3
  exact ⟨l4, e4, by omega⟩
theorem eats_items {α : Type} {f : RS → α × RS} {c : Nat} (hf : Eats f c) : ∀ (k : Nat) (acc : List α) (s : RS) (l : List α) (r : List UInt8), rdItems f k acc s = (l, some r) → ∃ t, s = some t ∧ r.length + c * l.length ≤ t.length + c * acc.length
  | 0, acc, s, l, r, h => by
    simp only [rdItems, Prod.mk.injEq] at h
    exact ⟨r, h.2, by rw [h.1]; omega⟩
  | k + 1, acc, s, l, r, h => by
    rw [rdItems] at h
    split at h
    · cases h
    · rename_i x r' e
      obtain ⟨t, e1, h1⟩ := eats_items hf k _ _ _ _ h
      obtain ⟨u, e2, h2⟩ := hf s r' (by rw [e])
      simp only [Option.some.injEq] at e1
      subst e1
      refine ⟨u, e2, ?_⟩
      rw [List.length_append, Nat.mul_add] at h1
      simp only [List.length_cons, List.length_nil] at h1
      omega
theorem rdRow_eats (most : Int) (s : RS) (r : List UInt8) (h : (rdRow most s).2 = some r) : ∃ t, s = some t ∧ r.length + 2 * (rdRow most s).1.length ≤ t.length := by
  unfold rdRow at h ⊢
  split at h
  · cases h
  · rename_i l r' e
    split at h
    · rename_i hb
      simp only [Option.some.injEq] at h
      subst h
      obtain ⟨t, e1, h1⟩ := eats_items eats_dot _ _ _ _ _ e
      obtain ⟨u, e2, h2⟩ := eats_int _ _ _ e1
      rw [if_pos hb]
      refine ⟨u, e2, ?_⟩
      simp only [List.length_nil] at h1
      dsimp only
      omega
    · cases h
theorem rdCtx_eats (s : RS) (r : List UInt8) (h : (rdCtx s).2 = some r) : ∃ t, s = some t ∧ r.length + 2 * ((rdCtx s).1.1.length + (rdCtx s).1.2.length) ≤ t.length := by
  unfold rdCtx at h ⊢
  split at h
  · cases h
  · rename_i C r' e
    split at h
    · rename_i hb
      simp only [Option.some.injEq] at h
      subst h
      obtain ⟨t, e1, h1⟩ := rdRow_eats 1000 (rdRow 1000 s).2 r' (by rw [e])
      obtain ⟨u, e2, h2⟩ := rdRow_eats 1000 s t e1
      rw [if_pos hb]
      rw [e] at h1
      dsimp only at h1 ⊢
      exact ⟨u, e2, by omega⟩
    · cases h
theorem rdBag_size (l : List UInt8) (s : RS) (hs : ∀ t, s = some t → t.length ≤ l.length) : (rdBag s).1.1.length ≤ l.length / 2 ∧ (rdBag s).1.2.1.length + (rdBag s).1.2.2.length ≤ l.length / 2 := by
  unfold rdBag
  split
  · simp
  · rename_i m r e
    split
    · dsimp only
      obtain ⟨t, e1, h1⟩ := eats_items eats_msg _ _ _ _ _ e
      obtain ⟨u, e2, h2⟩ := eats_int _ _ _ e1
      obtain ⟨v, e3, h3⟩ := rdCtx_eats _ _ e2
      have := hs v e3
      simp only [List.length_nil] at h1
      omega
    · simp
theorem rdJ_size (l : List UInt8) (hl : l.length ≤ 60) : BN 30 (rdJ l).2.1 := by
  have h := rdBag_size l (rdInt 15 (some l)).2 (fun t ht => by
    obtain ⟨u, e, h⟩ := eats_int 15 (some l) t ht
    simp only [Option.some.injEq] at e
    subst e; omega)
  exact ⟨rdBag_ok _, by show (rdBag _).1.1.length ≤ 30; omega, by show (rdBag _).1.2.1.length + (rdBag _).1.2.2.length ≤ 30; omega⟩
theorem rdJ_text {k : Nat} {g : Bag} (hk : k < 16) (hg : BN 1000 g) : rdJ (num k ++ bagB g) = (k, g, some []) := by
  have hc := hg.c
  have h1 : rdInt 15 (some (num k ++ bagB g)) = ((k : Int), some (bagB g)) := rdInt_num 15 k (by omega) (by omega) _
  have h2 : rdBag (some (bagB g ++ [])) = (g, some []) := rdBag_bytes hg.v hg.l (by omega) (by omega) []
  rw [List.append_nil] at h2
  unfold rdJ
  rw [h1]
  dsimp only
  rw [h2, Int.toNat_natCast]
theorem rpart_lt (x : Rc) : rpart x < 16 := by
  have := andK x.p 15 (by decide)
  unfold rpart; omega
/-- A record by numbers brings a small bag. -/
theorem bsz_text (x : Rc) : BN 30 (bsz (rtext x)) := by
  have h0 : BN 30 nb := BN.nil.mono (by decide)
  have h7 : (x.raw.take 60).length ≤ 60 := by rw [List.length_take]; omega
  unfold rtext
  split
  · exact h0
  · split
    · exact h0
    · split
      · show BN 30 (rdJ _).2.1
        rw [rdJ_text (rpart_lt x) ((rbag_ok x).mono (by decide))]
        exact (rbag_ok x).mono (by decide)
      · split
        · exact h0
        · split
          · exact h0
          · split
            · exact h0
            · unfold bsz
              split
              · exact h0
              · rename_i c l e
                split
                · refine rdJ_size l ?_
                  rw [e] at h7
                  simp only [List.length_cons] at h7; omega
                · exact h0
/-- What may be stays so. -/
theorem SOk.appl {M c : Nat} {S : SD} (h : SOk M S) {t : List UInt8} (hr : BN c (bsz t)) : SOk (M + c) (appl S t).1 := by
  have hm := fun p => (h.bag p).mono (Nat.le_add_right M c)
  have hs : SOk (M + c) S := ⟨h.id0, h.id1, h.up0, h.up1, h.bn, hm, h.tags, h.view, h.holds⟩
  cases t with
  | nil => exact hs
  | cons k l =>
    have hb := rdInt_bd 1099511627776 (some l)
    have hb2 := hb.2 (by decide)
    unfold Go.Proofs.YtdlpnhfgjficgaaGreat.appl
    dsimp only
    split
    · unfold apI
      split
      · exact hs
      · split
        · exact hs
        · exact ⟨hb.1, hb2, h.up0, h.up1, h.bn, hm, h.tags, h.view, h.holds⟩
    · split
      · unfold apR
        split
        · exact hs
        · refine ⟨h.id0, h.id1, ?_, ?_, h.bn, hm, h.tags, h.view, h.holds⟩
          · have := h.up0; dsimp only; omega
          · have := h.up1; dsimp only; omega
      · split
        · rename_i hk
          unfold apB
          split
          · have hg : BN c (rdJ l).2.1 := by
              have := hr
              unfold bsz at this
              dsimp only at this
              rwa [if_pos hk] at this
            refine ⟨h.id0, h.id1, h.up0, h.up1, by simpa using h.bn, fun p => ?_, h.tags, h.view, h.holds⟩
            show BN (M + c) ((S.bags.set _ _).getD p nb)
            rw [set3_getD h.bn (rdJ_bd l)]
            split
            · exact (h.bag _).join hg
            · exact hm p
          · exact hs
        · split
          · unfold apN
            split
            · exact ⟨h.id0, h.id1, h.up0, h.up1, h.bn, hm, h.tags.join (rdTags_ok _), h.view, h.holds⟩
            · exact hs
          · split
            · unfold apV
              split
              · exact ⟨h.id0, h.id1, h.up0, h.up1, h.bn, hm, h.tags, h.view.join (rdView_ok _), h.holds⟩
              · exact hs
            · split
              · unfold apH
                split
                · exact ⟨h.id0, h.id1, h.up0, h.up1, h.bn, hm, h.tags, h.view, rdHolds_ok _⟩
                · exact hs
              · exact hs
end Go.Proofs.YtdlpnhfgjficgaaGreat

namespace Go.Proofs.YtdlpnhfgjficgaaGreat
open Go.RowKit Go.Maps

def q4 : List (List UInt8) := [[97], [98], [99], [100]]
/-- Queues by a letter. -/
structure T4 (l : List Tag) : Prop where
  v : TV l
  q : ∀ t ∈ l, t.1 ∈ q4
theorem tmrg4_len {a b : List Tag} (ha : T4 a) (hb : T4 b) : (tmrg a b).length ≤ 100 := by
  have hr := tmrg_rise a b ha.v.r hb.v.r
  have hnd : ((tmrg a b).map (·.1)).Nodup := by
    have : ((tmrg a b).map (·.1)).Pairwise (fun x y => x ≠ y) := by
      rw [List.pairwise_map]
      exact List.Pairwise.imp (R := fun x y : Tag => TL x.1 y.1) (fun {x y} h (e : x.1 = y.1) => TL.irr y.1 (e ▸ h)) hr
    exact this
  have := nodup_sub_len hnd (k := q4) (fun s hs => by
    obtain ⟨t, ht, rfl⟩ := List.mem_map.1 hs
    obtain ⟨u, hu, e⟩ := tmrg_from a b t ht
    rw [← e]
    exact hu.elim (ha.q u) (hb.q u))
  simp [q4] at this
  omega
theorem tjoin4 {a b : List Tag} (ha : T4 a) (hb : T4 b) : tjoin a b = tmrg a b := by
  show (tmrg a b).take 100 = _
  exact List.take_of_length_le (tmrg4_len ha hb)
theorem T4.join {a b : List Tag} (ha : T4 a) (hb : T4 b) : T4 (tjoin a b) := by
  refine ⟨ha.v.join hb.v, fun t ht => ?_⟩
  rw [tjoin4 ha hb] at ht
  obtain ⟨u, hu, e⟩ := tmrg_from a b t ht
  rw [← e]
  exact hu.elim (ha.q u) (hb.q u)
theorem tget_key {l : List Tag} {s : List UInt8} {t : Tag} (h : tget l s = some t) : t.1 = s := (kget_some h).2
theorem tof_comm {a b : Option Tag} {s : List UInt8} (ha : ∀ x, a = some x → x.1 = s) (hb : ∀ x, b = some x → x.1 = s) : tof a b = tof b a := by
  cases a with
  | none => cases b <;> rfl
  | some x => cases b with
    | none => rfl
    | some y =>
      have := (ha x rfl).trans (hb y rfl).symm
      show some (x.1, max x.2 y.2) = some (y.1, max y.2 x.2)
      rw [this, Int.max_comm]
theorem tof_assoc (a b c : Option Tag) : tof (tof a b) c = tof a (tof b c) := by
  cases a <;> cases b <;> cases c <;> simp [tof, Int.max_assoc]
theorem tof_self (a : Option Tag) : tof a a = a := by
  cases a <;> simp [tof]
theorem tjoin_ext {x y : List Tag} (hx : T4 x) (hy : T4 y) (h : ∀ s, tget x s = tget y s) : x = y := KS.ext TL.irr TL.tr hx.v.r hy.v.r h
theorem tjoin_get {a b : List Tag} (ha : T4 a) (hb : T4 b) (s : List UInt8) : tget (tjoin a b) s = tof (tget a s) (tget b s) := by
  rw [tjoin4 ha hb]; exact tmrg_get a b ha.v.r hb.v.r s
theorem tjoin_comm {a b : List Tag} (ha : T4 a) (hb : T4 b) : tjoin a b = tjoin b a :=
  tjoin_ext (ha.join hb) (hb.join ha) (fun s => by rw [tjoin_get ha hb, tjoin_get hb ha]; exact tof_comm (fun x h => tget_key h) (fun x h => tget_key h))
theorem tjoin_assoc {a b c : List Tag} (ha : T4 a) (hb : T4 b) (hc : T4 c) : tjoin (tjoin a b) c = tjoin a (tjoin b c) :=
  tjoin_ext ((ha.join hb).join hc) (ha.join (hb.join hc)) (fun s => by rw [tjoin_get (ha.join hb) hc, tjoin_get ha hb, tjoin_get ha (hb.join hc), tjoin_get hb hc]; exact tof_assoc _ _ _)
theorem tjoin_again {a b : List Tag} (ha : T4 a) (hb : T4 b) : tjoin (tjoin a b) b = tjoin a b :=
  tjoin_ext ((ha.join hb).join hb) (ha.join hb) (fun s => by rw [tjoin_get (ha.join hb) hb, tjoin_get ha hb, tof_assoc, tof_self])
theorem tjoin_swap {a b c : List Tag} (ha : T4 a) (hb : T4 b) (hc : T4 c) : tjoin (tjoin a b) c = tjoin (tjoin a c) b := by
  rw [tjoin_assoc ha hb hc, tjoin_comm hb hc, tjoin_assoc ha hc hb]

/-- Peers of a number from 1 to 4. -/
structure V4 (l : List Pr) : Prop where
  v : VV l
  q : ∀ p ∈ l, 1 ≤ p.id ∧ p.id ≤ 4
theorem vfold_from : ∀ (b a : List Pr), ∀ x ∈ vfold a b, ∃ y, (y ∈ a ∨ y ∈ b) ∧ y.id = x.id
  | [], a, x, h => ⟨x, .inl h, rfl⟩
  | p :: b, a, x, h => by
    obtain ⟨y, hy, e⟩ := vfold_from b (pins p a) x h
    rcases hy with hy | hy
    · rcases pins_mem p a y hy with e2 | ⟨z, hz, e2⟩
      · exact ⟨p, .inr (by simp), by rw [← e, e2]⟩
      · exact ⟨z, .inl hz, by rw [e2, e]⟩
    · exact ⟨y, .inr (List.mem_cons_of_mem _ hy), e⟩
theorem vfold4_len {a b : List Pr} (ha : V4 a) (hb : V4 b) : (vfold a b).length ≤ 64 := by
  have hr := (vfold_spec b a ha.v.r hb.v.r).1
  have hnd : ((vfold a b).map (·.id)).Nodup := by
    have : ((vfold a b).map (·.id)).Pairwise (fun x y => x ≠ y) := by
      rw [List.pairwise_map]
      exact List.Pairwise.imp (R := fun x y : Pr => x.id < y.id) (fun {x y} h (e : x.id = y.id) => by omega) hr
    exact this
  have := nodup_sub_len hnd (k := [1, 2, 3, 4]) (fun s hs => by
    obtain ⟨t, ht, rfl⟩ := List.mem_map.1 hs
    obtain ⟨u, hu, e⟩ := vfold_from b a t ht
    have := hu.elim (ha.q u) (hb.q u)
    simp only [List.mem_cons, List.not_mem_nil, or_false]
    omega)
  simp at this
  omega
theorem vjoin4 {a b : List Pr} (ha : V4 a) (hb : V4 b) : vjoin a b = vfold a b := List.take_of_length_le (vfold4_len ha hb)
theorem V4.join {a b : List Pr} (ha : V4 a) (hb : V4 b) : V4 (vjoin a b) := by
  refine ⟨ha.v.join hb.v, fun t ht => ?_⟩
  rw [vjoin4 ha hb] at ht
  obtain ⟨u, hu, e⟩ := vfold_from b a t ht
  rw [← e]
  exact hu.elim (ha.q u) (hb.q u)
theorem vget_key {l : List Pr} {s : Int} {t : Pr} (h : vget l s = some t) : t.id = s := (kget_some h).2
theorem vof_comm {a b : Option Pr} {s : Int} (ha : ∀ x, a = some x → x.id = s) (hb : ∀ x, b = some x → x.id = s) : vof a b = vof b a := by
  cases a with
  | none => cases b <;> rfl
  | some x => cases b with
    | none => rfl
    | some y =>
      show some (later x y) = some (later y x)
      rw [later_comm ((ha x rfl).trans (hb y rfl).symm)]
theorem vof_assoc {a b c : Option Pr} {s : Int} (ha : ∀ x, a = some x → x.id = s) (hb : ∀ x, b = some x → x.id = s) (hc : ∀ x, c = some x → x.id = s) : vof (vof a b) c = vof a (vof b c) := by
  cases a with
  | none => cases b <;> cases c <;> rfl
  | some x => cases b with
    | none => cases c <;> rfl
    | some y => cases c with
      | none => rfl
      | some z =>
        show some (later (later x y) z) = some (later x (later y z))
        rw [later_assoc ((ha x rfl).trans (hb y rfl).symm) ((hb y rfl).trans (hc z rfl).symm)]
theorem vof_self (a : Option Pr) : vof a a = a := by
  cases a with
  | none => rfl
  | some x => show some (later x x) = _; rw [later_self]
theorem vjoin_ext {x y : List Pr} (hx : V4 x) (hy : V4 y) (h : ∀ s, vget x s = vget y s) : x = y := KS.ext il_irr il_tr hx.v.r hy.v.r h
theorem vjoin_get {a b : List Pr} (ha : V4 a) (hb : V4 b) (s : Int) : vget (vjoin a b) s = vof (vget a s) (vget b s) := by
  rw [vjoin4 ha hb]; exact (vfold_spec b a ha.v.r hb.v.r).2 s
theorem vjoin_comm {a b : List Pr} (ha : V4 a) (hb : V4 b) : vjoin a b = vjoin b a :=
  vjoin_ext (ha.join hb) (hb.join ha) (fun s => by rw [vjoin_get ha hb, vjoin_get hb ha]; exact vof_comm (fun x h => vget_key h) (fun x h => vget_key h))
theorem vjoin_assoc {a b c : List Pr} (ha : V4 a) (hb : V4 b) (hc : V4 c) : vjoin (vjoin a b) c = vjoin a (vjoin b c) :=
  vjoin_ext ((ha.join hb).join hc) (ha.join (hb.join hc)) (fun s => by rw [vjoin_get (ha.join hb) hc, vjoin_get ha hb, vjoin_get ha (hb.join hc), vjoin_get hb hc]; exact vof_assoc (fun x h => vget_key h) (fun x h => vget_key h) (fun x h => vget_key h))
theorem vjoin_again {a b : List Pr} (ha : V4 a) (hb : V4 b) : vjoin (vjoin a b) b = vjoin a b :=
  vjoin_ext ((ha.join hb).join hb) (ha.join hb) (fun s => by rw [vjoin_get (ha.join hb) hb, vjoin_get ha hb, vof_assoc (fun x h => vget_key h) (fun x h => vget_key h) (fun x h => vget_key h), vof_self])
theorem vjoin_swap {a b c : List Pr} (ha : V4 a) (hb : V4 b) (hc : V4 c) : vjoin (vjoin a b) c = vjoin (vjoin a c) b := by
  rw [vjoin_assoc ha hb hc, vjoin_comm hb hc, vjoin_assoc ha hc hb]
theorem bjoin_swap {a b c : Bag} (ha : BV a) (hb : BV b) (hc : BV c) : bjoin (bjoin a b) c = bjoin (bjoin a c) b := by
  rw [bjoin_assoc ha.all hb.all hc.all, bjoin_comm hb.all hc.all, bjoin_assoc ha.all hc.all hb.all]
theorem bjoin_again {a b : Bag} (ha : BV a) (hb : BV b) : bjoin (bjoin a b) b = bjoin a b := by
  rw [bjoin_assoc ha.all hb.all hb.all, bjoin_self hb.all]
end Go.Proofs.YtdlpnhfgjficgaaGreat

namespace Go.Proofs.YtdlpnhfgjficgaaGreat
open Go.RowKit Go.Maps

/-- What records by numbers keep. -/
structure SI (S : SD) : Prop where
  bn : S.bags.length = 16
  bag : ∀ p, BV (S.bags.getD p nb)
  tags : T4 S.tags
  view : V4 S.view
def act (x : Rc) (S : SD) : SD := (appl S (rtext x)).1
def actB (p : Nat) (g : Bag) (S : SD) : SD := { S with bags := S.bags.set p (bjoin (S.bags.getD p nb) g) }
def actN (l : List Tag) (S : SD) : SD := { S with tags := tjoin S.tags l }
def actV (l : List Pr) (S : SD) : SD := { S with view := vjoin S.view l }
theorem rtag4 (x : Rc) : T4 [rtag x] := by
  refine ⟨rtag_ok x, fun t ht => ?_⟩
  simp at ht; subst ht
  have h := andK x.n 3 (by decide)
  have hb : bits .and .i64 x.n 3 = 0 ∨ bits .and .i64 x.n 3 = 1 ∨ bits .and .i64 x.n 3 = 2 ∨ bits .and .i64 x.n 3 = 3 := by omega
  unfold rtag
  dsimp only
  rcases hb with hb | hb | hb | hb <;> rw [hb] <;> decide
theorem rpr4 (x : Rc) : V4 [rpr x] := by
  refine ⟨rpr_ok x, fun t ht => ?_⟩
  simp at ht; subst ht
  have h := andK x.n 3 (by decide)
  unfold rpr
  dsimp only
  omega
theorem appl_B {x : Rc} (h : K7 x = 2 ∨ K7 x = 3) (S : SD) : appl S (rtext x) = (actB (rpart x) (rbag x) S, 0) := by
  have ht : rtext x = 66 :: (num (rpart x) ++ bagB (rbag x)) := by unfold rtext; rw [if_neg (by omega), if_neg (by omega), if_pos h]
  rw [ht]
  show apB S _ = _
  unfold apB
  rw [rdJ_text (rpart_lt x) ((rbag_ok x).mono (by decide)), if_pos rfl]
  rfl
theorem appl_N {x : Rc} (h : K7 x = 4) (S : SD) : appl S (rtext x) = (actN [rtag x] S, 0) := by
  have ht : rtext x = 78 :: tagsB [rtag x] := by unfold rtext; rw [if_neg (by omega), if_neg (by omega), if_neg (by omega), if_pos h]
  rw [ht]
  show apN S _ = _
  have e := rdTags_bytes (rtag_ok x) []
  rw [List.append_nil] at e
  unfold apN
  rw [e, if_pos rfl]
  rfl
theorem appl_V {x : Rc} (h : K7 x = 5) (S : SD) : appl S (rtext x) = (actV [rpr x] S, 0) := by
  have ht : rtext x = 86 :: viewB [rpr x] := by unfold rtext; rw [if_neg (by omega), if_neg (by omega), if_neg (by omega), if_neg (by omega), if_pos h]
  rw [ht]
  show apV S _ = _
  have e := rdView_bytes (rpr_ok x) []
  rw [List.append_nil] at e
  unfold apV
  rw [e, if_pos rfl]
  rfl
theorem SI.zero : SI S0 := by
  refine ⟨rfl, fun p => ?_, ⟨TV.nil, by simp [S0]⟩, ⟨VV.nil, by simp [S0]⟩⟩
  have : S0.bags.getD p nb = nb := nb_get 16 p
  rw [this]; exact BV.nil
theorem SI.actB {S : SD} (h : SI S) {p : Nat} {g : Bag} (hp : p < 16) (hg : BV g) : SI (actB p g S) := by
  refine ⟨by show (S.bags.set _ _).length = 16; simpa using h.bn, fun q => ?_, h.tags, h.view⟩
  show BV ((S.bags.set _ _).getD q nb)
  rw [set3_getD h.bn hp]
  split
  · exact (h.bag p).join hg
  · exact h.bag q
theorem SI.actN {S : SD} (h : SI S) {l : List Tag} (hl : T4 l) : SI (actN l S) := ⟨h.bn, h.bag, h.tags.join hl, h.view⟩
theorem SI.actV {S : SD} (h : SI S) {l : List Pr} (hl : V4 l) : SI (actV l S) := ⟨h.bn, h.bag, h.tags, h.view.join hl⟩
theorem actB_swap {S : SD} (h : SI S) {p q : Nat} {g k : Bag} (hp : p < 16) (hq : q < 16) (hg : BV g) (hk : BV k) : actB p g (actB q k S) = actB q k (actB p g S) := by
  obtain ⟨i, u, b, t, v, o⟩ := S
  have hb : b.length = 16 := h.bn
  have hbag : ∀ p, BV (b.getD p nb) := h.bag
  unfold Go.Proofs.YtdlpnhfgjficgaaGreat.actB
  dsimp only
  rw [set3_getD hb hq, set3_getD hb hp]
  congr 1
  by_cases e : p = q
  · subst e
    rw [if_pos rfl, if_pos rfl, List.set_set, List.set_set, bjoin_swap (hbag p) hk hg]
  · rw [if_neg e, if_neg (fun x => e x.symm)]
    exact List.set_comm _ _ (fun x => e x.symm)
theorem actB_again {S : SD} (h : SI S) {p : Nat} {g : Bag} (hp : p < 16) (hg : BV g) : actB p g (actB p g S) = actB p g S := by
  obtain ⟨i, u, b, t, v, o⟩ := S
  have hb : b.length = 16 := h.bn
  have hbag : ∀ p, BV (b.getD p nb) := h.bag
  unfold Go.Proofs.YtdlpnhfgjficgaaGreat.actB
  dsimp only
  rw [set3_getD hb hp, if_pos rfl, List.set_set, bjoin_again (hbag p) hg]
theorem actN_swap {S : SD} (h : SI S) {l k : List Tag} (hl : T4 l) (hk : T4 k) : actN l (actN k S) = actN k (actN l S) := by
  unfold Go.Proofs.YtdlpnhfgjficgaaGreat.actN
  dsimp only
  rw [tjoin_swap h.tags hk hl]
theorem actV_swap {S : SD} (h : SI S) {l k : List Pr} (hl : V4 l) (hk : V4 k) : actV l (actV k S) = actV k (actV l S) := by
  unfold Go.Proofs.YtdlpnhfgjficgaaGreat.actV
  dsimp only
  rw [vjoin_swap h.view hk hl]
/-- A record of a bag, a queue or a peer. -/
def Rk (x : Rc) : Prop := 2 ≤ K7 x ∧ K7 x ≤ 5
theorem act_form {x : Rc} (h : Rk x) : (∃ p g, p < 16 ∧ BV g ∧ ∀ S, appl S (rtext x) = (actB p g S, 0)) ∨ (∃ l, T4 l ∧ ∀ S, appl S (rtext x) = (actN l S, 0)) ∨ (∃ l, V4 l ∧ ∀ S, appl S (rtext x) = (actV l S, 0)) := by
  unfold Rk at h
  have hk : (K7 x = 2 ∨ K7 x = 3) ∨ K7 x = 4 ∨ K7 x = 5 := by omega
  rcases hk with hk | hk | hk
  · exact .inl ⟨_, _, rpart_lt x, (rbag_ok x).v, appl_B hk⟩
  · exact .inr (.inl ⟨_, rtag4 x, appl_N hk⟩)
  · exact .inr (.inr ⟨_, rpr4 x, appl_V hk⟩)
theorem act_ok {x : Rc} (h : Rk x) (S : SD) : (appl S (rtext x)).2 = 0 := by
  rcases act_form h with ⟨p, g, _, _, e⟩ | ⟨l, _, e⟩ | ⟨l, _, e⟩ <;> rw [e]
theorem SI.act {S : SD} (hS : SI S) {x : Rc} (h : Rk x) : SI (act x S) := by
  unfold Go.Proofs.YtdlpnhfgjficgaaGreat.act
  rcases act_form h with ⟨p, g, hp, hg, e⟩ | ⟨l, hl, e⟩ | ⟨l, hl, e⟩ <;> rw [e]
  · exact hS.actB hp hg
  · exact hS.actN hl
  · exact hS.actV hl
theorem act_swap {S : SD} (hS : SI S) {x y : Rc} (hx : Rk x) (hy : Rk y) : act x (act y S) = act y (act x S) := by
  unfold act
  rcases act_form hx with ⟨p, g, hp, hg, e⟩ | ⟨l, hl, e⟩ | ⟨l, hl, e⟩ <;> rcases act_form hy with ⟨q, k, hq, hk, f⟩ | ⟨m, hm, f⟩ | ⟨m, hm, f⟩ <;> simp only [e, f]
  · exact actB_swap hS hp hq hg hk
  · rfl
  · rfl
  · rfl
  · exact actN_swap hS hl hm
  · rfl
  · rfl
  · rfl
  · exact actV_swap hS hl hm
/-- All of them, in order. -/
def acts (l : List Rc) (S : SD) : SD := l.foldl (fun S x => act x S) S
theorem acts_cons (x : Rc) (l : List Rc) (S : SD) : acts (x :: l) S = acts l (act x S) := List.foldl_cons ..
theorem SI.acts (l : List Rc) : ∀ {S : SD}, SI S → (∀ x ∈ l, Rk x) → SI (acts l S) := by
  induction l with
  | nil => intro S h _; exact h
  | cons x l ih =>
    intro S h hl
    rw [acts_cons]
    exact ih (h.act (hl x (by simp))) (fun y hy => hl y (by simp [hy]))
theorem acts_last (l : List Rc) {x : Rc} (hx : Rk x) : ∀ {S : SD}, SI S → (∀ y ∈ l, Rk y) → acts l (act x S) = act x (acts l S) := by
  induction l with
  | nil => intro S _ _; rfl
  | cons y l ih =>
    intro S h hl
    rw [acts_cons, acts_cons, act_swap h (hl y (by simp)) hx]
    exact ih (h.act (hl y (by simp))) (fun z hz => hl z (by simp [hz]))
theorem acts_snoc (l : List Rc) (x : Rc) (S : SD) : acts (l ++ [x]) S = act x (acts l S) := by
  unfold Go.Proofs.YtdlpnhfgjficgaaGreat.acts
  rw [List.foldl_append, List.foldl_cons, List.foldl_nil]
theorem acts_rev (l : List Rc) : ∀ {S : SD}, SI S → (∀ y ∈ l, Rk y) → acts l.reverse S = acts l S := by
  induction l with
  | nil => intro S _ _; rfl
  | cons x l ih =>
    intro S h hl
    have hl' : ∀ y ∈ l, Rk y := fun y hy => hl y (by simp [hy])
    rw [List.reverse_cons, acts_snoc, ih h hl', acts_cons, acts_last l (hl x (by simp)) h hl']
end Go.Proofs.YtdlpnhfgjficgaaGreat

namespace Go.Proofs.YtdlpnhfgjficgaaGreat
open Go.RowKit Go.Maps Go.Shelf Go.Sort

theorem bs_list2 (l : List UInt8) : (bs l).toList = l := ByteArray.toList_mk l
theorem ssame_short {l k : List (List UInt8)} (h : l.length ≠ k.length) : decide (l = k) = false := by simp; exact fun e => h (by rw [e])
theorem ssame_take {l k : List (List UInt8)} {i : Nat} (h : l.take i = k.take i) (h1 : i < l.length) (h2 : i < k.length) (e : l.getD i [] = k.getD i []) : l.take (i + 1) = k.take (i + 1) := by
  rw [take_succ_s l i h1, take_succ_s k i h2, h, e]
theorem ssame_full {l k : List (List UInt8)} (h : l.length = k.length) (e : l.take l.length = k.take l.length) : decide (l = k) = true := by rw [List.take_length, h, List.take_length] at e; simp [e]
theorem ssame_not {l k : List (List UInt8)} {i : Nat} (e : ¬ l.getD i [] = k.getD i []) : decide (l = k) = false := by simp; exact fun h => e (by rw [h])

set_option maxHeartbeats 2000000 in
theorem rstexts_any (v u : Value) (l k : List (List UInt8)) (w : World) (hv : Strs w v l) (hu : Strs w u k) :
    Calls Tryz.prog 32 #[v, u] w fun e w' => e = .returned (.bool (decide (l = k))) ∧ Pure w w' := by
  obtain ⟨a, ca, rfl⟩ := hv.shape
  obtain ⟨b, cb, rfl⟩ := hu.shape
  have h2 : l.length ≤ maxLen := Row.len_le hv
  have h4 : k.length ≤ maxLen := Row.len_le hu
  unfold maxLen at h2 h4
  have Hv := hid hv
  have Hu := hid hu
  clear hv hu
  by_cases hl : l.length = k.length
  · have hne : ((l.length : Int) != (k.length : Int)) = false := by simp [hl]
    have hl1 : l.length ≤ k.length := by omega
    have hl2 : k.length ≤ l.length := by omega
    have Hl := hid hl
    clear hl
    go_enter Tryz.func32, Tryz.ntmps32
    go_wp2
    go_loopw [5] (fun x wr => ∃ i : Nat, i ≤ l.length ∧ x = .int .i64 i ∧ l.take i = k.take i ∧ ∃ n, wr = w.drewN n) (fun x _ => l.length - (RowKit.intOf x).toNat)
    case atStart => exact ⟨0, Nat.zero_le _, rfl, by simp, 0, rfl⟩
    case round =>
      obtain ⟨i, hi, rfl, ht, n, rfl⟩ := hrel
      by_cases hlt : i < l.length
      · have hlk : i < k.length := by omega
        obtain ⟨ba, oa, rfl, _, c0⟩ := Strs.get Hv.out hlt
        obtain ⟨bb, ob, rfl, _, d0⟩ := Strs.get Hu.out hlk
        have Hs := hid (ssame_take ht hlt hlk)
        have Hn := hid (@ssame_not l k i)
        have hlt' : (i : Int) < (l.length : Int) := by omega
        have hlk' : (i : Int) < (k.length : Int) := by omega
        clear ht
        generalize l.getD i [] = x at *
        generalize k.getD i [] = y at *
        by_cases hxy : x = y
        · subst hxy
          have Hs' := hid (Hs.out rfl)
          clear Hs Hn
          generalize bs x = X at *
          have e1 : (X.toList != X.toList) = false := by simp
          go_wp2_with fail
          go_quiet (fail)
          go_wp2
          go_roundw
          case rel => exact ⟨i + 1, by omega, by go_num, Hs'.out, _, rfl⟩
          case measure => simp [RowKit.intOf]; omega
        · have Hf := hid (Hn.out hxy)
          have hb : ((bs x).toList != (bs y).toList) = true := by rw [bs_list2, bs_list2]; simpa using hxy
          have hb2 : ((bs x).toList == (bs y).toList) = false := by rw [bs_list2, bs_list2]; simpa using hxy
          have hb3 : ((bs x).toList = (bs y).toList) = False := by rw [bs_list2, bs_list2]; simpa using hxy
          generalize bs x = X at *
          generalize bs y = Y at *
          clear hxy Hs Hn
          go_wp2_with fail
          go_quiet (fail)
          go_wp2
          go_ret
          exact ⟨ret_bool Hf.out.symm, (pure_drewN _ n).then_ (pure_drewN _ _)⟩
      · have e : i = l.length := by omega
        subst e
        have hlt' : ¬ (l.length : Int) < (l.length : Int) := by omega
        have Hf := hid (ssame_full Hl.out ht)
        clear ht
        go_wp2
        go_ret
        exact ⟨ret_bool Hf.out.symm, pure_drewN _ _⟩
  · have Hf := hid (ssame_short hl)
    have hne : ((l.length : Int) != (k.length : Int)) = true := by simp; omega
    go_enter Tryz.func32, Tryz.ntmps32
    clear hl
    go_wp2
    go_ret
    exact ⟨ret_bool Hf.out.symm, Below.refl _ _⟩

end Go.Proofs.YtdlpnhfgjficgaaGreat

namespace Go.Proofs.YtdlpnhfgjficgaaGreat
open Go.RowKit Go.Maps Go.Shelf

def runs (l : List Rc) : SD := l.foldl (fun S x => (appl S (rtext x)).1) S0
theorem runs_take {l : List Rc} {k : Nat} (h : k < l.length) : runs (l.take (k + 1)) = (appl (runs (l.take k)) (rtext (l.getD k rc0))).1 := by
  unfold runs
  rw [List.take_succ_eq_append_getElem h, List.foldl_append]
  simp [List.getD, h]
theorem St2.keep {n c : Nat} {S : SD} {w w' : World} (h : St2 n c S w) (hk : Kept (fun k => k = c) w w') (hn : n ≠ c) : St2 n c S w' := by
  obtain ⟨r, h1, h2, h3⟩ := h
  exact ⟨r, h1.kept hk hn, h2.kept2 h3 hk, h3.kept hk⟩
set_option maxRecDepth 8000 in
set_option maxHeartbeats 8000000 in
theorem copies_walk (a0 : Option Addr) (len cap : Nat) (L : List Rc) (xa xb : Rc) (w : World) (h : RecsIn w a0 len cap L) (ya : Rwf xa) (yb : Rwf xb) :
    Calls Tryz.prog 7 #[.slice a0 len cap, rcV xa, rcV xb] w fun e w' => e = .returned (.bool true) ∧ Pure w w' := by
  obtain ⟨hlen, hrow, hwf⟩ := h
  subst hlen
  have haw := hid awake19_any
  have Hta := hid (fun W => text_any xa W ya)
  have Htb := hid (fun W => text_any xb W yb)
  have Hba := hid (bsz_text xa)
  have Hbb := hid (bsz_text xb)
  have Hbs := hid (fun x => bsz_text x)
  have Htx := hid (fun k (hk : k < L.length) W => text_any (L.getD k rc0) W (hwf _ (by simp [List.getD, hk])))
  unfold TxP at Hta Htb Htx
  have Hrun := hid (fun k (hk : k < L.length) => runs_take hk)
  generalize rtext xa = ta at *
  generalize rtext xb = tb at *
  obtain ⟨a1, a2, a3, a4⟩ := xa
  obtain ⟨b1, b2, b3, b4⟩ := xb
  unfold rcV at Hta Htb ⊢
  dsimp only at Hta Htb ⊢
  obtain ⟨wz, hwz⟩ : ∃ wz, wz = (w.alloc (.cells #[.int .i64 a1, .int .i64 a2, .int .i64 a3, .string (bs a4)] 39)).alloc (.cells #[.int .i64 b1, .int .i64 b2, .int .i64 b3, .string (bs b4)] 39) := ⟨_, rfl⟩
  have Hpz := hid (show Pure w wz from by rw [hwz]; exact ((Below.refl _ _).alloc (Nat.le_refl _) _).alloc (by simp) _)
  have B4 := hid (show wz.heap[w.heap.size]? = some (.cells #[.int .i64 a1, .int .i64 a2, .int .i64 a3, .string (bs a4)] 39 (0, 0)) from by rw [hwz]; exact block_alloc_old (block_alloc_new _ _) _)
  have B5 := hid (show wz.heap[w.heap.size + 1]? = some (.cells #[.int .i64 b1, .int .i64 b2, .int .i64 b3, .string (bs b4)] 39 (0, 0)) from by
    have := block_alloc_new (w.alloc (.cells #[.int .i64 a1, .int .i64 a2, .int .i64 a3, .string (bs a4)] 39)) (.cells #[.int .i64 b1, .int .i64 b2, .int .i64 b3, .string (bs b4)] 39)
    rw [World.size_alloc] at this
    rw [hwz]; exact this)
  have Hrow := hid (fun W (hW : Pure wz W) => (show Recs W (.slice a0 L.length cap) L from Row.pure hrow (Hpz.out.then_ hW)))
  have Hc4 := hid (fun W (hW : Pure wz W) => (show W.cell? ⟨w.heap.size, 0, none⟩ = some (.int .i64 a1) ∧ W.cell? ⟨w.heap.size, 1, none⟩ = some (.int .i64 a2) ∧ W.cell? ⟨w.heap.size, 2, none⟩ = some (.int .i64 a3) ∧ W.cell? ⟨w.heap.size, 3, none⟩ = some (.string (bs a4)) from by
    have e := (hW.block _ (lt_of_block B4.out)).trans B4.out
    exact ⟨cell_of_block e 0, cell_of_block e 1, cell_of_block e 2, cell_of_block e 3⟩))
  have Hc5 := hid (fun W (hW : Pure wz W) => (show W.cell? ⟨w.heap.size + 1, 0, none⟩ = some (.int .i64 b1) ∧ W.cell? ⟨w.heap.size + 1, 1, none⟩ = some (.int .i64 b2) ∧ W.cell? ⟨w.heap.size + 1, 2, none⟩ = some (.int .i64 b3) ∧ W.cell? ⟨w.heap.size + 1, 3, none⟩ = some (.string (bs b4)) from by
    have e := (hW.block _ (lt_of_block B5.out)).trans B5.out
    exact ⟨cell_of_block e 0, cell_of_block e 1, cell_of_block e 2, cell_of_block e 3⟩))
  clear hrow hwf ya yb
  go_enter Tryz.func7, Tryz.ntmps7
  go_wp2_with fail
  rw [← hwz]
  clear hwz
  refine (haw.out _).mono ?_
  rintro e w1 ⟨rfl, hp1⟩
  have Hp1 := hid hp1
  clear hp1
  go_wp2_with fail
  refine (snew_any _).mono ?_
  rintro e w2 ⟨rfl, hs2, hp2⟩
  have Hp2 := hid (Hp1.out.then_ hp2)
  have Hs2 := hid (show St2 w1.heap.size w1.heap.size S0 w2 from (St.zero hs2).two)
  obtain ⟨n, hn⟩ : ∃ n, n = w1.heap.size := ⟨_, rfl⟩
  have Hn := hid (show wz.heap.size ≤ n from by rw [hn]; exact Hp1.out.size)
  rw [← hn] at Hs2 ⊢
  clear hs2 hp2 hn
  go_wp2
  go_loopw [9] (fun i wr => ∃ k : Nat, k ≤ L.length ∧ k ≤ 20 ∧ i = .int .i64 k ∧ St2 n n (runs (L.take k)) wr ∧ SOk (30 * k) (runs (L.take k)) ∧ Pure wz wr) (fun i _ => 20 - (RowKit.intOf i).toNat)
  case atStart => exact ⟨0, Nat.zero_le _, Nat.zero_le _, rfl, Hs2.out, SOk.zero 0, Hp2.out⟩
  case round =>
    obtain ⟨k, hk, hk20, rfl, hst, hok, hpr⟩ := hrel
    have Hst := hid hst
    have Hok := hid hok
    have Hpr := hid hpr
    by_cases hlt : k < L.length ∧ k < 20
    · obtain ⟨hl1, hl2⟩ := hlt
      obtain ⟨b, off, rfl, hb0, x0, x1, x2, x3⟩ := Recs.get (Hrow.out wr hpr) hl1
      have hl1' : (k : Int) < (L.length : Int) := by omega
      have hl2' : (k : Int) < 20 := by omega
      have Hr := hid (Hrun.out k hl1)
      have Ht := hid (Htx.out k hl1)
      have Hb := hid (Hbs.out (L.getD k rc0))
      generalize L.getD k rc0 = x at *
      generalize rtext x = tx at *
      obtain ⟨y1, y2, y3, y4⟩ := x
      unfold rcV at Ht
      dsimp only at Ht x0 x1 x2 x3
      clear hst hok hpr hb0
      go_wp2_with fail
      refine (Ht.out _).mono ?_
      rintro e w3 ⟨rfl, hp3⟩
      have Hp3 := hid hp3
      clear hp3 x0 x1 x2 x3
      go_wp2_with fail
      refine (sapply_any n n (30 * k) 30 _ tx w3 (Hst.out.pure Hp3.out) (Hst.out.pure Hp3.out).lt Hok.out Hb.out (by omega)).mono ?_
      rintro e w4 ⟨rfl, hs4, hk4⟩
      have Hs4 := hid hs4
      have Hk4 := hid hk4
      clear hs4 hk4
      go_wp2
      go_roundw
      case rel => exact ⟨k + 1, by omega, by omega, by go_num, by rw [Hr.out]; exact Hs4.out, by rw [Hr.out, Nat.mul_add]; exact Hok.out.appl Hb.out, pure_box (Hpr.out.then_ Hp3.out) Hk4.out Hn.out⟩
      case measure => simp [RowKit.intOf]; omega
    · have hx : ¬ k < L.length ∨ (k < L.length ∧ k = 20) := by omega
      rcases hx with hx | ⟨hx, rfl⟩
      · have hx' : ¬ (k : Int) < (L.length : Int) := by omega
        clear hst hok hpr
        generalize runs (L.take k) = S at *
        have hM : 30 * k ≤ 600 := by omega
        have hMM := hid hM
        generalize 30 * k = M at *
        go_wp2_with fail
        refine (scopy_any n S _ Hst.out.st).mono ?_
        rintro e w3 ⟨rfl, hc3, hs3, hp3⟩
        obtain ⟨c, hcc⟩ : ∃ c, c = wr.heap.size := ⟨_, rfl⟩
        have Hnc := hid (show n < c from by rw [hcc]; exact Hst.out.lt)
        have Hcz := hid (show wz.heap.size ≤ c from by rw [hcc]; exact Hpr.out.size)
        rw [← hcc] at hc3 hs3 ⊢
        clear hcc
        have HC3 := hid hc3
        have HS3 := hid hs3
        have P3 := hid (Hpr.out.then_ hp3)
        clear hc3 hs3 hp3
        go_wp2_with fail
        refine (srecs_any n S M _ HS3.out.st Hok.out (by omega)).mono ?_
        rintro e w5 ⟨v5, rfl, ho5, hp5⟩
        obtain ⟨a5, c5, rfl⟩ := own_shape_d ho5
        have HO5 := hid (own_mono ho5 (show w3.heap.size ≤ w3.heap.size from Nat.le_refl _))
        have Q5 := hid hp5
        have P5 := hid (P3.out.then_ hp5)
        have Hc3 := hid (show c < w3.heap.size from HC3.out.lt)
        clear ho5 hp5
        go_wp2_with fail
        refine (srecs_any c S M _ (HC3.out.pure Q5.out).st Hok.out (by omega)).mono ?_
        rintro e w6 ⟨v6, rfl, ho6, hp6⟩
        obtain ⟨a6, c6, rfl⟩ := own_shape_d ho6
        have HO6 := hid ho6
        have Q6 := hid (Q5.out.then_ hp6)
        have P6 := hid (P5.out.then_ hp6)
        have R5 := hid (show Strs w6 (.slice a5 (srecs S).length c5) (srecs S) from Row.pure (Row.of_own HO5.out) hp6)
        clear ho6 hp6
        go_wp2_with fail
        refine (rstexts_any _ _ (srecs S) (srecs S) w6 (Row.of_own HO6.out) R5.out).mono ?_
        rintro e w7 ⟨rfl, hp7⟩
        rw [show decide (srecs S = srecs S) = true by simp]
        have Q7 := hid (Q6.out.then_ hp7)
        have P7 := hid (P6.out.then_ hp7)
        have R7 := hid (show Strs w7 (.slice a5 (srecs S).length c5) (srecs S) from Row.pure R5.out hp7)
        clear hp7
        obtain ⟨x0, x1, x2, x3⟩ := Hc4.out _ P7.out
        go_wp2_with fail
        clear x0 x1 x2 x3
        refine (Hta.out _).mono ?_
        rintro e w8 ⟨rfl, hp8⟩
        have Q8 := hid (Q7.out.then_ hp8)
        have P8 := hid (P7.out.then_ hp8)
        have R8 := hid (show Strs w8 (.slice a5 (srecs S).length c5) (srecs S) from Row.pure R7.out hp8)
        clear hp8
        go_wp2_with fail
        refine (sapply_any c n M 30 S ta w8 (HC3.out.pure Q8.out) (HS3.out.pure Q8.out).lt Hok.out Hba.out (by omega)).mono ?_
        rintro e w9 ⟨rfl, hs9, hk9⟩
        have HC9 := hid hs9
        have HS9 := hid ((HS3.out.pure Q8.out).keep hk9 (by have := Hnc.out; omega))
        have P9 := hid (pure_box P8.out hk9 Hcz.out)
        have Hok9 := hid (Hok.out.appl Hba.out)
        have R9 := hid (show Strs w9 (.slice a5 (srecs S).length c5) (srecs S) from Row.kept R8.out hk9 (fun j hj e => by have := (HO5.out.lt j (rb_own hj)).1; have := Hc3.out; omega))
        have Q9 := hid hk9
        clear hs9 hk9
        generalize (appl S ta).1 = S2 at *
        go_wp2_with fail
        refine (srecs_any n S M _ HS9.out.st Hok.out (by omega)).mono ?_
        rintro e w10 ⟨v10, rfl, ho10, hp10⟩
        obtain ⟨a10, c10, rfl⟩ := own_shape_d ho10
        have HO10 := hid ho10
        have P10 := hid (P9.out.then_ hp10)
        have T10 := hid hp10
        have R10 := hid (show Strs w10 (.slice a5 (srecs S).length c5) (srecs S) from Row.pure R9.out hp10)
        clear ho10 hp10
        go_wp2_with fail
        refine (rstexts_any _ _ (srecs S) (srecs S) w10 (Row.of_own HO10.out) R10.out).mono ?_
        rintro e w11 ⟨rfl, hp11⟩
        rw [show decide (srecs S = srecs S) = true by simp]
        have P11 := hid (P10.out.then_ hp11)
        have T11 := hid (T10.out.then_ hp11)
        clear hp11
        go_wp2_with fail
        refine (srecs_any c S2 (M + 30) _ (HC9.out.pure T11.out).st Hok9.out (by omega)).mono ?_
        rintro e w12 ⟨v12, rfl, ho12, hp12⟩
        obtain ⟨a12, c12, rfl⟩ := own_shape_d ho12
        have HO12 := hid ho12
        have P12 := hid (P11.out.then_ hp12)
        have T12 := hid (T11.out.then_ hp12)
        have Hn11 := hid (show n < w11.heap.size from (HS9.out.pure T11.out).lt)
        clear ho12 hp12
        obtain ⟨x0, x1, x2, x3⟩ := Hc5.out _ P12.out
        go_wp2_with fail
        clear x0 x1 x2 x3
        refine (Htb.out _).mono ?_
        rintro e w13 ⟨rfl, hp13⟩
        have P13 := hid (P12.out.then_ hp13)
        have T13 := hid (T12.out.then_ hp13)
        have R13 := hid (show Strs w13 (.slice a12 (srecs S2).length c12) (srecs S2) from Row.pure (Row.of_own HO12.out) hp13)
        clear hp13
        go_wp2_with fail
        refine (sapply_any n c M 30 S tb w13 (HS9.out.pure T13.out) (HC9.out.pure T13.out).lt Hok.out Hbb.out (by omega)).mono ?_
        rintro e w14 ⟨rfl, hs14, hk14⟩
        have HC14 := hid ((HC9.out.pure T13.out).keep hk14 (by have := Hnc.out; omega))
        have P14 := hid (pure_box P13.out hk14 Hn.out)
        have R14 := hid (show Strs w14 (.slice a12 (srecs S2).length c12) (srecs S2) from Row.kept R13.out hk14 (fun j hj e => by have := (HO12.out.lt j (rb_own hj)).1; have := Hn11.out; omega))
        clear hs14 hk14
        go_wp2_with fail
        refine (srecs_any c S2 (M + 30) _ HC14.out.st Hok9.out (by omega)).mono ?_
        rintro e w15 ⟨v15, rfl, ho15, hp15⟩
        obtain ⟨a15, c15, rfl⟩ := own_shape_d ho15
        have HO15 := hid ho15
        have P15 := hid (P14.out.then_ hp15)
        have R15 := hid (show Strs w15 (.slice a12 (srecs S2).length c12) (srecs S2) from Row.pure R14.out hp15)
        clear ho15 hp15
        go_wp2_with fail
        refine (rstexts_any _ _ (srecs S2) (srecs S2) w15 (Row.of_own HO15.out) R15.out).mono ?_
        rintro e w16 ⟨rfl, hp16⟩
        rw [show decide (srecs S2 = srecs S2) = true by simp]
        have P16 := hid (P15.out.then_ hp16)
        clear hp16
        go_wp2
        go_ret
        exact ⟨rfl, Hpz.out.then_ P16.out⟩
      · have hx' : ((20 : Nat) : Int) < (L.length : Int) := by omega
        have hx2 : (20 : Int) < (L.length : Int) := by omega
        clear hst hok hpr
        generalize runs (L.take 20) = S at *
        have hM : 30 * 20 ≤ 600 := by omega
        have hMM := hid hM
        generalize 30 * 20 = M at *
        go_wp2_with fail
        refine (scopy_any n S _ Hst.out.st).mono ?_
        rintro e w3 ⟨rfl, hc3, hs3, hp3⟩
        obtain ⟨c, hcc⟩ : ∃ c, c = wr.heap.size := ⟨_, rfl⟩
        have Hnc := hid (show n < c from by rw [hcc]; exact Hst.out.lt)
        have Hcz := hid (show wz.heap.size ≤ c from by rw [hcc]; exact Hpr.out.size)
        rw [← hcc] at hc3 hs3 ⊢
        clear hcc
        have HC3 := hid hc3
        have HS3 := hid hs3
        have P3 := hid (Hpr.out.then_ hp3)
        clear hc3 hs3 hp3
        go_wp2_with fail
        refine (srecs_any n S M _ HS3.out.st Hok.out (by omega)).mono ?_
        rintro e w5 ⟨v5, rfl, ho5, hp5⟩
        obtain ⟨a5, c5, rfl⟩ := own_shape_d ho5
        have HO5 := hid (own_mono ho5 (show w3.heap.size ≤ w3.heap.size from Nat.le_refl _))
        have Q5 := hid hp5
        have P5 := hid (P3.out.then_ hp5)
        have Hc3 := hid (show c < w3.heap.size from HC3.out.lt)
        clear ho5 hp5
        go_wp2_with fail
        refine (srecs_any c S M _ (HC3.out.pure Q5.out).st Hok.out (by omega)).mono ?_
        rintro e w6 ⟨v6, rfl, ho6, hp6⟩
        obtain ⟨a6, c6, rfl⟩ := own_shape_d ho6
        have HO6 := hid ho6
        have Q6 := hid (Q5.out.then_ hp6)
        have P6 := hid (P5.out.then_ hp6)
        have R5 := hid (show Strs w6 (.slice a5 (srecs S).length c5) (srecs S) from Row.pure (Row.of_own HO5.out) hp6)
        clear ho6 hp6
        go_wp2_with fail
        refine (rstexts_any _ _ (srecs S) (srecs S) w6 (Row.of_own HO6.out) R5.out).mono ?_
        rintro e w7 ⟨rfl, hp7⟩
        rw [show decide (srecs S = srecs S) = true by simp]
        have Q7 := hid (Q6.out.then_ hp7)
        have P7 := hid (P6.out.then_ hp7)
        have R7 := hid (show Strs w7 (.slice a5 (srecs S).length c5) (srecs S) from Row.pure R5.out hp7)
        clear hp7
        obtain ⟨x0, x1, x2, x3⟩ := Hc4.out _ P7.out
        go_wp2_with fail
        clear x0 x1 x2 x3
        refine (Hta.out _).mono ?_
        rintro e w8 ⟨rfl, hp8⟩
        have Q8 := hid (Q7.out.then_ hp8)
        have P8 := hid (P7.out.then_ hp8)
        have R8 := hid (show Strs w8 (.slice a5 (srecs S).length c5) (srecs S) from Row.pure R7.out hp8)
        clear hp8
        go_wp2_with fail
        refine (sapply_any c n M 30 S ta w8 (HC3.out.pure Q8.out) (HS3.out.pure Q8.out).lt Hok.out Hba.out (by omega)).mono ?_
        rintro e w9 ⟨rfl, hs9, hk9⟩
        have HC9 := hid hs9
        have HS9 := hid ((HS3.out.pure Q8.out).keep hk9 (by have := Hnc.out; omega))
        have P9 := hid (pure_box P8.out hk9 Hcz.out)
        have Hok9 := hid (Hok.out.appl Hba.out)
        have R9 := hid (show Strs w9 (.slice a5 (srecs S).length c5) (srecs S) from Row.kept R8.out hk9 (fun j hj e => by have := (HO5.out.lt j (rb_own hj)).1; have := Hc3.out; omega))
        have Q9 := hid hk9
        clear hs9 hk9
        generalize (appl S ta).1 = S2 at *
        go_wp2_with fail
        refine (srecs_any n S M _ HS9.out.st Hok.out (by omega)).mono ?_
        rintro e w10 ⟨v10, rfl, ho10, hp10⟩
        obtain ⟨a10, c10, rfl⟩ := own_shape_d ho10
        have HO10 := hid ho10
        have P10 := hid (P9.out.then_ hp10)
        have T10 := hid hp10
        have R10 := hid (show Strs w10 (.slice a5 (srecs S).length c5) (srecs S) from Row.pure R9.out hp10)
        clear ho10 hp10
        go_wp2_with fail
        refine (rstexts_any _ _ (srecs S) (srecs S) w10 (Row.of_own HO10.out) R10.out).mono ?_
        rintro e w11 ⟨rfl, hp11⟩
        rw [show decide (srecs S = srecs S) = true by simp]
        have P11 := hid (P10.out.then_ hp11)
        have T11 := hid (T10.out.then_ hp11)
        clear hp11
        go_wp2_with fail
        refine (srecs_any c S2 (M + 30) _ (HC9.out.pure T11.out).st Hok9.out (by omega)).mono ?_
        rintro e w12 ⟨v12, rfl, ho12, hp12⟩
        obtain ⟨a12, c12, rfl⟩ := own_shape_d ho12
        have HO12 := hid ho12
        have P12 := hid (P11.out.then_ hp12)
        have T12 := hid (T11.out.then_ hp12)
        have Hn11 := hid (show n < w11.heap.size from (HS9.out.pure T11.out).lt)
        clear ho12 hp12
        obtain ⟨x0, x1, x2, x3⟩ := Hc5.out _ P12.out
        go_wp2_with fail
        clear x0 x1 x2 x3
        refine (Htb.out _).mono ?_
        rintro e w13 ⟨rfl, hp13⟩
        have P13 := hid (P12.out.then_ hp13)
        have T13 := hid (T12.out.then_ hp13)
        have R13 := hid (show Strs w13 (.slice a12 (srecs S2).length c12) (srecs S2) from Row.pure (Row.of_own HO12.out) hp13)
        clear hp13
        go_wp2_with fail
        refine (sapply_any n c M 30 S tb w13 (HS9.out.pure T13.out) (HC9.out.pure T13.out).lt Hok.out Hbb.out (by omega)).mono ?_
        rintro e w14 ⟨rfl, hs14, hk14⟩
        have HC14 := hid ((HC9.out.pure T13.out).keep hk14 (by have := Hnc.out; omega))
        have P14 := hid (pure_box P13.out hk14 Hn.out)
        have R14 := hid (show Strs w14 (.slice a12 (srecs S2).length c12) (srecs S2) from Row.kept R13.out hk14 (fun j hj e => by have := (HO12.out.lt j (rb_own hj)).1; have := Hn11.out; omega))
        clear hs14 hk14
        go_wp2_with fail
        refine (srecs_any c S2 (M + 30) _ HC14.out.st Hok9.out (by omega)).mono ?_
        rintro e w15 ⟨v15, rfl, ho15, hp15⟩
        obtain ⟨a15, c15, rfl⟩ := own_shape_d ho15
        have HO15 := hid ho15
        have P15 := hid (P14.out.then_ hp15)
        have R15 := hid (show Strs w15 (.slice a12 (srecs S2).length c12) (srecs S2) from Row.pure R14.out hp15)
        clear ho15 hp15
        go_wp2_with fail
        refine (rstexts_any _ _ (srecs S2) (srecs S2) w15 (Row.of_own HO15.out) R15.out).mono ?_
        rintro e w16 ⟨rfl, hp16⟩
        rw [show decide (srecs S2 = srecs S2) = true by simp]
        have P16 := hid (P15.out.then_ hp16)
        clear hp16
        go_wp2
        go_ret
        exact ⟨rfl, Hpz.out.then_ P16.out⟩
end Go.Proofs.YtdlpnhfgjficgaaGreat

