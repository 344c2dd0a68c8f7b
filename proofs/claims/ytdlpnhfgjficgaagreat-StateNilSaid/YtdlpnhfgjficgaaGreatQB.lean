/- ctx.Nodes. -/
import Derived.Test.YtdlpnhfgjficgaaGreatMPj
import Derived.Test.YtdlpnhfgjficgaaGreatQA
import Derived.Test.YtdlpnhfgjficgaaGreatKeys
namespace Go.Proofs.YtdlpnhfgjficgaaGreat
open Go.RowKit Go.Maps Go.Shelf Go.Sort

theorem len_tr (l : List Int) : (tr l).length = l.length := by simp [tr]
theorem keys_tr (l : List Int) : (tr l).map (·.1) = l := by unfold tr; rw [List.map_map]; exact List.map_id l
theorem mput_tr_mem (l : List Int) (k : Int) (h : k ∈ l) : mput (tr l) k true = tr l := by
  induction l with
  | nil => simp at h
  | cons a l ih =>
    simp only [tr, List.map_cons, mput] at *
    by_cases e : a = k
    · subst e; simp
    · rw [if_neg (by simpa using e), ih (by rcases List.mem_cons.1 h with h | h; exact absurd h.symm e; exact h)]
theorem mput_dd (l : List Int) (k : Nat) (h : k < l.length) : mput (tr (dd (l.take k))) (l.getD k 0) true = tr (dd (l.take (k + 1))) := by
  rw [dd_take l k h]
  split
  · rename_i hm; exact mput_tr_mem _ _ hm
  · rename_i hm; exact mput_tr _ _ hm
theorem map_getD_fst (L : List Dot) (k : Nat) (h : k < L.length) : (L.map (·.1)).getD k 0 = (L.getD k (0, 0)).1 := by simp [List.getD, h]
theorem ddo_spec : ∀ (l acc : List Int), acc.Nodup → (ddo acc l).Nodup ∧ ∀ x, x ∈ ddo acc l ↔ x ∈ acc ∨ x ∈ l
  | [], acc, h => ⟨h, by simp [ddo]⟩
  | a :: l, acc, h => by
    unfold ddo
    by_cases ha : a ∈ acc
    · rw [if_pos ha]
      obtain ⟨h1, h2⟩ := ddo_spec l acc h
      refine ⟨h1, fun x => (h2 x).trans ?_⟩
      simp only [List.mem_cons]
      constructor
      · rintro (h | h)
        · exact .inl h
        · exact .inr (.inr h)
      · rintro (h | rfl | h)
        · exact .inl h
        · exact .inl ha
        · exact .inr h
    · rw [if_neg ha]
      obtain ⟨h1, h2⟩ := ddo_spec l (acc ++ [a]) (by rw [List.nodup_append]; exact ⟨h, by simp, fun x hx y hy e => ha (by simp at hy; rw [← hy, ← e]; exact hx)⟩)
      refine ⟨h1, fun x => (h2 x).trans ?_⟩
      simp [or_assoc]
theorem sorted_eq_i : ∀ {l k : List Int}, l.Pairwise (· < ·) → k.Pairwise (· < ·) → (∀ x, x ∈ l ↔ x ∈ k) → l = k
  | [], [], _, _, _ => rfl
  | [], b :: k, _, _, h => absurd ((h b).2 (by simp)) (by simp)
  | a :: l, [], _, _, h => absurd ((h a).1 (by simp)) (by simp)
  | a :: l, b :: k, h1, h2, h => by
    obtain ⟨p1, p2⟩ := List.pairwise_cons.1 h1
    obtain ⟨q1, q2⟩ := List.pairwise_cons.1 h2
    have hab : a = b := by
      rcases List.mem_cons.1 ((h a).1 (by simp)) with e | e
      · exact e
      · rcases List.mem_cons.1 ((h b).2 (by simp)) with e' | e'
        · exact e'.symm
        · have := p1 b e'; have := q1 a e; omega
    subst hab
    congr 1
    refine sorted_eq_i p2 q2 (fun x => ?_)
    have hx := h x
    simp only [List.mem_cons] at hx
    constructor
    · intro hm
      rcases hx.1 (.inr hm) with e | e
      · have := p1 x hm; omega
      · exact e
    · intro hm
      rcases hx.2 (.inr hm) with e | e
      · have := q1 x hm; omega
      · exact e
theorem srt_mem (l : List Int) (x : Int) : x ∈ srt l ↔ x ∈ l := by unfold srt; exact (List.mergeSort_perm l _).mem_iff
theorem srt_lt {l : List Int} (h : l.Nodup) : (srt l).Pairwise (· < ·) := by
  have h1 : (srt l).Pairwise (fun x y => x ≤ y) := by
    have := List.pairwise_mergeSort (le := fun (x y : Int) => decide (x ≤ y)) (by intro a b c; simp; omega) (by intro a b; simp; omega) l
    exact this.imp (fun {a b} h => by simpa using h)
  have h2 : (srt l).Nodup := (List.mergeSort_perm l _).nodup_iff.2 h
  exact (h1.and h2).imp (fun {a b} h => by have := h.1; have := h.2; omega)
theorem srt_nodes (B C : List Dot) : srt (dd ((B ++ C).map (·.1))) = cnodes B C := by
  obtain ⟨h1, h2⟩ := cnodes_spec B C
  obtain ⟨g1, g2⟩ := ddo_spec ((B ++ C).map (·.1)) [] List.nodup_nil
  refine sorted_eq_i (srt_lt g1) h1 (fun x => ?_)
  rw [srt_mem, h2]
  refine (g2 x).trans ?_
  simp only [List.not_mem_nil, false_or, List.mem_map, List.mem_append]

def NdP (B C : List Dot) (w : World) (e : Ending) (w' : World) : Prop := ∃ v', e = .returned v' ∧ w'.ownsRow w.heap.size 3 1 v' (cnodes B C).length ((cnodes B C).map (Value.int .i64)) ∧ Pure w w'
set_option maxRecDepth 8000 in
set_option maxHeartbeats 2000000 in
theorem nodes_any (vb vc : Value) (B C : List Dot) (w : World) (hB : Dots w vb B) (hC : Dots w vc C) (hl1 : B.length ≤ 100000) (hl2 : C.length ≤ 100000) (hwf : ∀ d ∈ B ++ C, (Lit.int .i64 d.1).wf = true) :
    Calls Tryz.prog 185 #[cv vb vc] w (NdP B C w) := by
  obtain ⟨W1, hW1⟩ : ∃ W1, W1 = ((w.alloc (.cells #[vb, vc] 32)).alloc (.map #[] 0)).alloc (.cells #[vb, vc] 30) := ⟨_, rfl⟩
  have Hp1 := hid (show Pure w W1 from by rw [hW1]; exact (((Below.refl _ _).alloc (Nat.le_refl _) _).alloc (by simp) _).alloc (by simp; omega) _)
  have hs1 : W1.heap.size = w.heap.size + 3 := by rw [hW1]; simp
  have hm1 : IMap Value.bool W1 (w.heap.size + 1) (tr (dd [])) := by
    have := IMap.made Value.bool (w.alloc (.cells #[vb, vc] 32))
    rw [hW1]
    have h2 := IMap.pure this ((Below.refl _ _).alloc (Nat.le_refl _) (.cells #[vb, vc] 30))
    have e : tr (dd []) = [] := rfl
    rw [e]
    simpa using h2
  have hb2 : W1.heap[w.heap.size + 2]? = some (.cells #[vb, vc] 30 (0, 0)) := by
    rw [hW1]
    have := block_alloc_new ((w.alloc (.cells #[vb, vc] 32)).alloc (.map #[] 0)) (.cells #[vb, vc] 30)
    simpa using this
  have c0 : W1.cell? ⟨w.heap.size + 2, 0, none⟩ = some vb := cell_of_block hb2 0
  have c1 : W1.cell? ⟨w.heap.size + 2, 1, none⟩ = some vc := cell_of_block hb2 1
  have Hcc := hid (fun cp => concatd_any (w.heap.size + 2) cp vb vc B C W1 c0 c1 (Row.pure hB Hp1.out) (Row.pure hC Hp1.out) hl1 hl2 (by omega))
  obtain ⟨a0, q0, rfl⟩ := hB.shape
  obtain ⟨a1, q1, rfl⟩ := hC.shape
  have Hm1 := hid hm1
  have Hs1 := hid hs1
  have hx0 : (w.alloc (.cells #[.slice a0 B.length q0, .slice a1 C.length q1] 32)).cell? ⟨w.heap.size, 0, none⟩ = some (.slice a0 B.length q0) := by rw [World.cell?_alloc_new]; simp
  have hx1 : (w.alloc (.cells #[.slice a0 B.length q0, .slice a1 C.length q1] 32)).cell? ⟨w.heap.size, 1, none⟩ = some (.slice a1 C.length q1) := by rw [World.cell?_alloc_new]; simp
  clear hB hC hm1 hb2 c0 c1 hs1
  unfold cv
  have hmm := @run_makeMap Tryz.prog
  have Hwf := hid (fun k (hk : k < (B ++ C).length) => (show (Lit.int .i64 (((B ++ C).map (·.1)).getD k 0)).wf = true from by
    rw [map_getD_fst _ _ hk]; exact hwf _ (getD_mem_d hk)))
  have Hput := hid (fun k (hk : k < (B ++ C).length) => mput_dd ((B ++ C).map (·.1)) k (by simpa using hk))
  have Hget := hid (fun k (hk : k < (B ++ C).length) => (show ((B ++ C).map (·.1)).getD k 0 = ((B ++ C).getD k (0, 0)).1 from map_getD_fst _ _ hk))
  have hcat : (B ++ C).length ≤ 200000 := by simp; omega
  have Hnod := hid (srt_nodes B C)
  have Hbdd := hid (dd_len ((B ++ C).map (·.1)))
  rw [List.length_map] at Hbdd
  clear hwf
  generalize hL : B ++ C = L at *
  clear hL
  go_enter Tryz.func185, Tryz.ntmps185
  go_wp2_with fail
  rw [← hW1]
  clear hW1 hx0 hx1 hmm
  refine (Hcc.out _).mono ?_
  rintro e w2 ⟨v2, rfl, hown, hp2⟩
  have Hp2 := hid hp2
  have Hrow := hid (show Dots w2 v2 L from Row.of_own hown)
  have Hblk := hid (fun k (hk : v2.rb = some k) => (hown.lt k (rb_own hk)).1)
  have Hm2 := hid (show IMap Value.bool w2 (w.heap.size + 1) (tr (dd [])) from Hm1.out.pure hp2)
  obtain ⟨a2, q2, rfl⟩ := own_shape_d hown
  clear hown hp2 Hcc
  go_wp2
  go_loopw [14] (fun i wr => ∃ k : Nat, k ≤ L.length ∧ i = .int .i64 k ∧ IMap Value.bool wr (w.heap.size + 1) (tr (dd ((L.map (·.1)).take k))) ∧ Kept (fun j => j = w.heap.size + 1) w2 wr) (fun i _ => L.length - (RowKit.intOf i).toNat)
  case atStart => exact ⟨0, Nat.zero_le _, rfl, Hm2.out, Kept.refl _ _⟩
  case round =>
    obtain ⟨k, hk, rfl, hmap, hkp⟩ := hrel
    have Hkp := hid hkp
    have Hmap := hid hmap
    by_cases hlt : k < L.length
    · obtain ⟨b, off, rfl, hb0, x0, x1⟩ := Dots.get (show Dots wr (.slice a2 L.length q2) L from Row.kept Hrow.out hkp (fun j hj e => by have := Hblk.out j hj; have := Hs1.out; omega)) hlt
      have hlt' : (k : Int) < (L.length : Int) := by omega
      have Hp := hid (Hput.out k hlt)
      have hw := Hwf.out k hlt
      rw [Hget.out k hlt] at Hp hw
      generalize L.getD k (0, 0) = z at *
      obtain ⟨z1, z2⟩ := z
      dsimp only at x0 x1 hw Hp
      have Hma := hid (hmap.pure (show Pure wr (wr.alloc (.cells #[.int .i64 z1, .int .i64 z2] 28)) from (Below.refl _ _).alloc (Nat.le_refl _) _))
      clear hmap hkp hb0
      go_wp2_with (at_mapUpdate; refine wpList_put Value.bool _ rfl _ _ _ 204 rfl 3 4 Tryz.underlying3 Tryz.underlying204 (w.heap.size + 1) (tr (dd ((L.map (·.1)).take k))) rfl Hma.out z1 hw true rfl rfl ?_; intro w3 hmap3 hg3 hs3; have Hmap3 := hid hmap3; have Hg3 := hid hg3; clear hmap3 hg3 hs3)
      go_roundw
      case rel => exact ⟨k + 1, by omega, by go_num, by rw [← Hp.out]; exact Hmap3.out, (Hkp.out.alloc _).grown Hg3.out (fun j hj _ => by cases hj; rfl)⟩
      case measure => simp [RowKit.intOf]; omega
    · obtain rfl : k = L.length := by omega
      have hlt' : ¬ (L.length : Int) < (L.length : Int) := by omega
      rw [List.take_of_length_le (by simp)] at Hmap
      have Hk := hid (keys_call (some (w.heap.size + 1)) wr)
      have hs := sorted_call Value.bool (w.heap.size + 1) (tr (dd (L.map (·.1)))) wr Hmap.out (by rw [len_tr]; have := Hbdd.out; omega)
      rw [keys_tr, Hnod.out] at hs
      have Hs := hid hs
      clear hs hmap hkp
      go_wp2_with fail
      refine Hk.out.mono ?_
      rintro e w3 ⟨rfl, rfl⟩
      go_wp2_with fail
      refine Hs.out.mono ?_
      rintro e w4 ⟨v4, rfl, hown4, hp4⟩
      have hq : w.heap.size ≤ wr.heap.size := by have := Hkp.out.size; have := Hp2.out.size; have := Hs1.out; omega
      have Hown4 := hid (own_mono hown4 hq)
      have Hp4 := hid (show Pure w w4 from by
        have h1 : Kept (fun j => w.heap.size ≤ j) w w2 := (Hp1.out.then_ Hp2.out).kept
        have h2 : Kept (fun j => w.heap.size ≤ j) w w4 := (h1.trans (Hkp.out.mono (fun j _ e => by omega))).trans hp4.kept
        exact h2.below (Nat.le_refl _) (fun j hj e => by omega))
      obtain ⟨a4, q4, rfl⟩ := (Row.of_own hown4).shape
      clear hown4 hp4 hq
      go_wp2
      go_ret
      exact ⟨_, rfl, Hown4.out, Hp4.out⟩
end Go.Proofs.YtdlpnhfgjficgaaGreat
