/- A state as data; its records, in plain words; rows of texts that lie in a box. Joined, Tagged, Seen, Held; Records' closures. Records of any state. -/
import Derived.Test.YtdlpnhfgjficgaaGreatMZa
import Derived.Test.YtdlpnhfgjficgaaGreatTD
import Derived.Test.YtdlpnhfgjficgaaGreatMVv
import Derived.Test.YtdlpnhfgjficgaaGreatMJm
import Derived.Test.YtdlpnhfgjficgaaGreatMVc
import Derived.Test.YtdlpnhfgjficgaaGreatMBy
import Derived.Test.YtdlpnhfgjficgaaGreatMDot
import Derived.Test.YtdlpnhfgjficgaaGreatMRg
import Derived.Deep.MidRow
namespace Go.Proofs.YtdlpnhfgjficgaaGreat
open Go.RowKit Go.Maps Go.Shelf

/-- What a node keeps, as data. -/
structure SD where
  id : Int
  up : Int
  bags : List Bag
  tags : List Tag
  view : List Pr
  holds : List Hold
def nb : Bag := ([], [], [])
theorem nb_get (k p : Nat) : (List.replicate k nb).getD p nb = nb := by
  rw [List.getD_eq_getElem?_getD, List.getElem?_replicate]
  split <;> rfl
def S0 : SD := ⟨0, 0, List.replicate 16 nb, [], [], []⟩
/-- The other cells of a state: 16 bags, and three rows. -/
structure SRows (n : Nat) (r : List Value) (S : SD) (w : World) : Prop where
  len : r.length = 51
  bag : ∀ p, p < 16 → ∃ v0 v1 v2, r[p * 3]? = some v0 ∧ r[p * 3 + 1]? = some v1 ∧ r[p * 3 + 2]? = some v2 ∧ BR3 v0 v1 v2 (S.bags.getD p nb) w ∧ (∀ k, v0.rb = some k → k ≠ n) ∧ (∀ k, v1.rb = some k → k ≠ n) ∧ ∀ k, v2.rb = some k → k ≠ n
  tags : ∃ v, r[48]? = some v ∧ Tags w v S.tags ∧ ∀ k, v.rb = some k → k ≠ n
  view : ∃ v, r[49]? = some v ∧ Peers w v S.view ∧ ∀ k, v.rb = some k → k ≠ n
  holds : ∃ v, r[50]? = some v ∧ Holds w v S.holds ∧ ∀ k, v.rb = some k → k ≠ n
theorem SRows.pure {n : Nat} {r : List Value} {S : SD} {w w' : World} (h : SRows n r S w) (hp : Pure w w') : SRows n r S w' := by
  refine ⟨h.len, fun p hp' => ?_, ?_, ?_, ?_⟩
  · obtain ⟨v0, v1, v2, e0, e1, e2, hb, f⟩ := h.bag p hp'
    exact ⟨v0, v1, v2, e0, e1, e2, hb.pure hp, f⟩
  · obtain ⟨v, e, hr, f⟩ := h.tags; exact ⟨v, e, Row.pure hr hp, f⟩
  · obtain ⟨v, e, hr, f⟩ := h.view; exact ⟨v, e, Row.pure hr hp, f⟩
  · obtain ⟨v, e, hr, f⟩ := h.holds; exact ⟨v, e, Row.pure hr hp, f⟩
/-- Only the state's own block is written. -/
theorem SRows.kept {n : Nat} {r : List Value} {S : SD} {w w' : World} (h : SRows n r S w) (hk : Kept (fun k => k = n) w w') : SRows n r S w' := by
  refine ⟨h.len, fun p hp' => ?_, ?_, ?_, ?_⟩
  · obtain ⟨v0, v1, v2, e0, e1, e2, hb, f0, f1, f2⟩ := h.bag p hp'
    exact ⟨v0, v1, v2, e0, e1, e2, hb.kept hk f0 f1 f2, f0, f1, f2⟩
  · obtain ⟨v, e, hr, f⟩ := h.tags; exact ⟨v, e, Row.kept hr hk f, f⟩
  · obtain ⟨v, e, hr, f⟩ := h.view; exact ⟨v, e, Row.kept hr hk f, f⟩
  · obtain ⟨v, e, hr, f⟩ := h.holds; exact ⟨v, e, Row.kept hr hk f, f⟩
/-- A state in block n. -/
def St (n : Nat) (S : SD) (w : World) : Prop := ∃ r, SAt n S.id S.up r w ∧ SRows n r S w
theorem St.pure {n : Nat} {S : SD} {w w' : World} (h : St n S w) (hp : Pure w w') : St n S w' := by
  obtain ⟨r, h1, h2⟩ := h; exact ⟨r, h1.pure hp, h2.pure hp⟩
theorem St.lt {n : Nat} {S : SD} {w : World} (h : St n S w) : n < w.heap.size := by obtain ⟨r, h1, _⟩ := h; exact h1.lt
theorem St.zero {n : Nat} {w : World} (h : SAt n 0 0 (List.replicate 51 (.slice none 0 0)) w) : St n S0 w := by
  have hv : ∀ j, j < 51 → (List.replicate 51 (Value.slice none 0 0))[j]? = some (.slice none 0 0) := fun j hj => by rw [List.getElem?_replicate, if_pos hj]
  have hf : ∀ k, (Value.slice none 0 0).rb = some k → k ≠ n := fun k hk => by simp [Value.rb] at hk
  refine ⟨_, h, ⟨by simp, fun p hp => ⟨_, _, _, hv _ (by omega), hv _ (by omega), hv _ (by omega), ?_, hf, hf, hf⟩, ⟨_, hv _ (by omega), Row.nil _ _, hf⟩, ⟨_, hv _ (by omega), Row.nil _ _, hf⟩, ⟨_, hv _ (by omega), Row.nil _ _, hf⟩⟩⟩
  have : S0.bags.getD p nb = nb := nb_get 16 p
  rw [this]
  exact ⟨Row.nil _ _, Row.nil _ _, Row.nil _ _⟩
/-- A state that may be. -/
structure SOk (m : Nat) (S : SD) : Prop where
  id0 : 0 ≤ S.id
  id1 : S.id ≤ 1099511627776
  up0 : 0 ≤ S.up
  up1 : S.up ≤ 1099511627776
  bn : S.bags.length = 16
  bag : ∀ p, BN m (S.bags.getD p nb)
  tags : TV S.tags
  view : VV S.view
  holds : HV S.holds
theorem SOk.zero (m : Nat) : SOk m S0 := by
  refine ⟨by decide, by decide, by decide, by decide, by simp [S0], fun p => ?_, TV.nil, VV.nil, HV.nil⟩
  have : S0.bags.getD p nb = nb := nb_get 16 p
  rw [this]
  exact BN.nil.mono (Nat.zero_le _)
/-! ### records -/
/-- A row of texts of the call's own, in box o; nothing else that was there in w6 is written. -/
structure OB (o : Nat) (w6 : World) (L : List (List UInt8)) (W : World) : Prop where
  ex : ∃ v, W.heap[o]? = some (.cells #[v] 61 (0, 0)) ∧ W.ownsRow w6.heap.size 9 1 v L.length (svs L)
  k : Kept (fun k => k = o) w6 W
  lt : o < w6.heap.size
theorem OB.pure {o : Nat} {w6 W W' : World} {L : List (List UInt8)} (h : OB o w6 L W) (hp : Pure W W') : OB o w6 L W' := by
  obtain ⟨⟨v, e, r⟩, k, l⟩ := h
  exact ⟨⟨v, (hp.block _ (lt_of_block e)).trans e, own_pure r hp⟩, k.trans hp.kept, l⟩
theorem OB.grow {o : Nat} {w6 W W' : World} {L : List (List UInt8)} {v v' : Value} {t : List UInt8} (h : OB o w6 L W) (hv : W.heap[o]? = some (.cells #[v] 61 (0, 0))) (hg : W.grownBy W' v.ownBlock) (hr : W.ownsRow w6.heap.size 9 1 v L.length (svs L)) (h' : W'.ownsRow w6.heap.size 9 1 v' (L.length + 1) (svs (L ++ [t]))) :
    W'.heap[o]? = some (.cells #[v] 61 (0, 0)) ∧ OB o w6 (L ++ [t]) (W'.setCell ⟨o, 0, none⟩ v') := by
  have hlt := h.lt
  have hk : Kept (fun k => w6.heap.size ≤ k) W W' := Kept.grown (S := fun k => w6.heap.size ≤ k) (Kept.refl _ _) hg (fun k hk _ => (hr.lt k hk).1)
  have e := (hk.block o (lt_of_block hv) (by omega)).trans hv
  refine ⟨e, ⟨⟨v', ?_, ?_⟩, ?_, hlt⟩⟩
  · have := block_setCell e 0 v'; simpa using this
  · have := own_kept h' (Kept.setCell (S := fun k => k = o) (Kept.refl _ _) (p := ⟨o, 0, none⟩) (fun _ => rfl) v') (fun j hj e => by have := (h'.lt j hj).1; omega)
    simpa using this
  · exact (h.k.then_ (T := fun k => w6.heap.size ≤ k) hk (fun i hi h => absurd hi (by omega))).setCell (p := ⟨o, 0, none⟩) (fun _ => rfl) v'
end Go.Proofs.YtdlpnhfgjficgaaGreat

namespace Go.Proofs.YtdlpnhfgjficgaaGreat
open Go.RowKit Go.Maps Go.Shelf

theorem tagsB_len {l : List Tag} (h : TV l) : (tagsB l).length ≤ 100000 := by
  have h1 := num_len l.length (by have := h.n; omega)
  have h2 := flatT_len l h.may
  have := h.n
  unfold tagsB; rw [List.length_append]; omega
theorem viewB_len {l : List Pr} (h : VV l) : (viewB l).length ≤ 100000 := by
  have h1 := num_len l.length (by have := h.n; omega)
  have h2 := flatP_len l h.may
  have := h.n
  unfold viewB; rw [List.length_append]; omega
theorem holdsB_len {l : List Hold} (h : HV l) : (holdsB l).length ≤ 100000 := by
  have h1 := num_len l.length (by have := h.n; omega)
  have h2 := flatH_len l h.may
  have := h.n
  unfold holdsB; rw [List.length_append]; omega
set_option maxRecDepth 8000 in
set_option maxHeartbeats 1000000 in
theorem stagged_any (v : Value) (l : List Tag) (w : World) (hr : Tags w v l) (hv : TV l) : Calls Tryz.prog 25 #[v] w fun e w' => e = .returned (.string (bs (78 :: tagsB l))) ∧ Pure w w' := by
  have h := hid (tbytes_any v l w hr hv.may (by have := hv.n; omega))
  have hc := bcat1 78 (tagsB l)
  have hlen := tagsB_len hv
  have hl : ¬ (9223372036854775807 : Int) < 1 + ((bs (tagsB l)).size : Int) := by rw [bs_size]; omega
  have hl2 : ¬ 9223372036854775807 < 1 + (bs (tagsB l)).size := by rw [bs_size]; omega
  clear hlen hr hv
  generalize tagsB l = L at *
  go_enter Tryz.func25, Tryz.ntmps25
  go_wp2_with (go_at_call 64; refine h.out.mono ?_; rintro e w1 ⟨rfl, hp1⟩; have Hp1 := hid hp1; clear hp1)
  go_ret
  exact ⟨rfl, Hp1.out⟩
set_option maxRecDepth 8000 in
set_option maxHeartbeats 1000000 in
theorem sseen_any (v : Value) (l : List Pr) (w : World) (hr : Peers w v l) (hv : VV l) : Calls Tryz.prog 27 #[v] w fun e w' => e = .returned (.string (bs (86 :: viewB l))) ∧ Pure w w' := by
  have h := hid (vbytes_any v l w hr hv.may (by have := hv.n; omega))
  have hc := bcat1 86 (viewB l)
  have hlen := viewB_len hv
  have hl : ¬ (9223372036854775807 : Int) < 1 + ((bs (viewB l)).size : Int) := by rw [bs_size]; omega
  have hl2 : ¬ 9223372036854775807 < 1 + (bs (viewB l)).size := by rw [bs_size]; omega
  clear hlen hr hv
  generalize viewB l = L at *
  go_enter Tryz.func27, Tryz.ntmps27
  go_wp2_with (go_at_call 66; refine h.out.mono ?_; rintro e w1 ⟨rfl, hp1⟩; have Hp1 := hid hp1; clear hp1)
  go_ret
  exact ⟨rfl, Hp1.out⟩
set_option maxRecDepth 8000 in
set_option maxHeartbeats 1000000 in
theorem sheld_any (v : Value) (l : List Hold) (w : World) (hr : Holds w v l) (hv : HV l) : Calls Tryz.prog 29 #[v] w fun e w' => e = .returned (.string (bs (72 :: holdsB l))) ∧ Pure w w' := by
  have h := hid (hbytes_any v l w hr hv.may (by have := hv.n; omega))
  have hc := bcat1 72 (holdsB l)
  have hlen := holdsB_len hv
  have hl : ¬ (9223372036854775807 : Int) < 1 + ((bs (holdsB l)).size : Int) := by rw [bs_size]; omega
  have hl2 : ¬ 9223372036854775807 < 1 + (bs (holdsB l)).size := by rw [bs_size]; omega
  clear hlen hr hv
  generalize holdsB l = L at *
  go_enter Tryz.func29, Tryz.ntmps29
  go_wp2_with (go_at_call 68; refine h.out.mono ?_; rintro e w1 ⟨rfl, hp1⟩; have Hp1 := hid hp1; clear hp1)
  go_ret
  exact ⟨rfl, Hp1.out⟩
theorem BN.small {m : Nat} {g : Bag} (h : BN m g) (hm : m ≤ 10000) : SmallG g := by
  have hc := h.c
  have hl := h.l
  refine ⟨fun x hx => mmay_sm (h.v.may x hx), fun d hd => ?_, fun d hd => ?_, by omega, by omega, by omega⟩
  · have := h.v.ok.bok d hd; unfold dok at this; unfold Small; omega
  · have := h.v.ok.cok d hd; unfold dok at this; unfold Small; omega
theorem bagB_len {m : Nat} {g : Bag} (h : BN m g) (hm : m ≤ 10000) : (bagB g).length ≤ 300000000 := by
  have hc := h.c
  have hl := h.l
  have hs := h.small hm
  have h1 := rowB_len g.2.1 (fun d hd => by have := h.v.ok.bok d hd; unfold dok at this; unfold Small; omega) (by omega)
  have h2 := rowB_len g.2.2 (fun d hd => by have := h.v.ok.cok d hd; unfold dok at this; unfold Small; omega) (by omega)
  have h3 := num_len g.1.length (by omega)
  have h4 := flatM_len g.1 (fun x hx => mmay_sm (h.v.may x hx))
  unfold bagB ctxB
  simp only [List.length_append]
  omega
end Go.Proofs.YtdlpnhfgjficgaaGreat

namespace Go.Proofs.YtdlpnhfgjficgaaGreat
open Go.RowKit Go.Maps Go.Shelf

theorem SAt.row {n : Nat} {a u : Int} {r : List Value} {w : World} (h : SAt n a u r w) (i : Nat) : w.cell? ⟨n, i + 2, none⟩ = r[i]? := by
  have e := cell_of_block h (i + 2)
  rw [e, List.getElem?_toArray, List.getElem?_cons_succ, List.getElem?_cons_succ]
def QB (q n : Nat) (w : World) : Prop := w.heap[q]? = some (.cells #[.pointer (some ⟨n, 0, none⟩)] 24 (0, 0))
theorem QB.pure {q n : Nat} {w w' : World} (h : QB q n w) (hp : Pure w w') : QB q n w' := (hp.block _ (lt_of_block h)).trans h
theorem QB.cell {q n : Nat} {w : World} (h : QB q n w) : w.cell? ⟨q, 0, none⟩ = some (.pointer (some ⟨n, 0, none⟩)) := cell_of_block h 0
end Go.Proofs.YtdlpnhfgjficgaaGreat

