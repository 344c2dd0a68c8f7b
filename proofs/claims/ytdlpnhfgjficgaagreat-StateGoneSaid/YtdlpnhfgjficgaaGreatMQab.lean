/- ctx.taken. ctx.Nodes. ctx.Join's put. -/
import Derived.Test.YtdlpnhfgjficgaaGreatMCm
import Derived.Test.YtdlpnhfgjficgaaGreatSuf
import Derived.Test.YtdlpnhfgjficgaaGreatMPj
import Derived.Test.YtdlpnhfgjficgaaGreatMSo
import Derived.Test.YtdlpnhfgjficgaaGreatMQs
namespace Go.Proofs.YtdlpnhfgjficgaaGreat
open Go.RowKit Go.Maps

structure TkP (u : Int) (v : Value) (l : List Dot) (w : World) (e : Ending) (w' : World) : Prop where
  ex : ∃ v', e = .returned (.tuple #[.int .i64 (takenL u l).1, v']) ∧ Dots w' v' (takenL u l).2 ∧ (∀ k, v'.rb = some k → v.rb = some k)
  pure : Pure w w'
theorem takenL_far {u : Int} {d : Dot} {l : List Dot} (h : u + 1 < d.2) : takenL u (d :: l) = (u, d :: l) := by simp [takenL, h]
theorem takenL_near {u : Int} {d : Dot} {l : List Dot} (h : ¬ u + 1 < d.2) : takenL u (d :: l) = takenL (max u d.2) l := by simp [takenL, h]

set_option maxHeartbeats 1000000 in
theorem taken_any (u : Int) (v : Value) (l : List Dot) (w : World) (hr : Dots w v l) (h0 : 0 ≤ u) (h1 : u ≤ 1152921504606846976) (hl : ∀ d ∈ l, d.2 ≤ 1152921504606846976) :
    Calls Tryz.prog 182 #[.int .i64 u, v] w (TkP u v l w) := by
  have Hr := hid hr
  have H0 := hid h0
  have H1 := hid h1
  have Hl := hid hl
  clear hr h0 h1 hl
  go_enter Tryz.func182, Tryz.ntmps182
  go_wp2_with fail
  go_step3
  go_wp2_with fail
  go_step3
  go_wp2_with fail
  go_loopw [0, 1] (fun a b wr => ∃ (u' : Int) (l' : List Dot), a = .int .i64 u' ∧ Dots wr b l' ∧ takenL u' l' = takenL u l ∧ 0 ≤ u' ∧ u' ≤ 1152921504606846976 ∧ (∀ d ∈ l', d.2 ≤ 1152921504606846976) ∧ (∀ k, b.rb = some k → v.rb = some k) ∧ Pure w wr) (fun _ b _ => vlen b)
  case atStart => exact ⟨u, l, rfl, Hr.out, rfl, H0.out, H1.out, Hl.out, fun _ h => h, Below.refl _ _⟩
  case round =>
    obtain ⟨u', l', rfl, hd, ht, b0, b1, hls, hrb, hp⟩ := hrel
    obtain ⟨a, cap, rfl⟩ := hd.shape
    have hlen := hd.len_le
    unfold maxLen at hlen
    have Ht := hid ht
    have Hrb := hid hrb
    have Hp := hid hp
    have Hd := hid hd
    clear ht hrb hp
    cases l' with
    | nil =>
      have hz : ¬ (0 : Int) < (([] : List Dot).length : Int) := by simp
      clear hd hls
      go_wp2
      exact bodyPost_ret (v := .tuple #[.int .i64 u', .slice a ([] : List Dot).length cap]) (by simp [results, Tryz.results182, go_sem]) rfl ⟨⟨_, by rw [← Ht.out]; rfl, by rw [← Ht.out]; exact Hd.out, Hrb.out⟩, Hp.out⟩
    | cons d l2 =>
      obtain ⟨b, off, rfl, hb, c0, c1⟩ := hd.get (k := 0) (by simp)
      have hz : (0 : Int) < ((d :: l2).length : Int) := by simp only [List.length_cons]; omega
      have hdm := hls d (by simp)
      have Hls := hid (fun x (hx : x ∈ l2) => hls x (List.mem_cons_of_mem _ hx))
      obtain ⟨x, y⟩ := d
      simp only [List.getD_cons_zero, Nat.zero_mul, Nat.add_zero] at c0 c1
      dsimp only at hdm
      by_cases hf : u' + 1 < y
      · have Hf := hid (takenL_far (d := (x, y)) (l := l2) hf)
        clear hd hls
        generalize hL : (x, y) :: l2 = L at *
        clear hL
        go_wp2
        exact bodyPost_ret (v := .tuple #[.int .i64 u', .slice (some ⟨b, off, none⟩) L.length cap]) (by simp [results, Tryz.results182, go_sem]) rfl ⟨⟨_, by rw [← Ht.out, Hf.out], by rw [← Ht.out, Hf.out]; exact Row.pure Hd.out ((Below.refl _ _).alloc (Nat.le_refl _) _), Hrb.out⟩, Hp.out.alloc Hp.out.size _⟩
      · have Hf := hid (takenL_near (d := (x, y)) (l := l2) hf)
        obtain ⟨v1, hv1, hrow, hrb1⟩ := slice_suf_off (P := Tryz.prog) Tryz.underlying30 hd (k := 1) (by simp) (.inr ⟨_, _, rfl⟩) sizeDot
        have Hrow := hid hrow
        have Hrb1 := hid hrb1
        have hnf : ¬ u' + 1 < y := hf
        have hnf2 : y ≤ u' + 1 := by omega
        clear hd hls hf hrow hrb1 hv1
        generalize hL : (x, y) :: l2 = L at *
        have hLl : L.length = l2.length + 1 := by rw [← hL]; simp
        have hcap : L.length ≤ cap := by obtain ⟨_, a', c', e, q1, q2, _⟩ := Hd.out; cases e; exact q1
        have Hm := hid (show (if u' < y then y else u') = max u' y by omega)
        have Hm1 := hid (show max u' y ≤ 1152921504606846976 by omega)
        have Hm0 := hid (show 0 ≤ max u' y by omega)
        have Hpa : Hid (∀ o, Pure wr (wr.alloc o)) := fun o => (Below.refl _ _).alloc (Nat.le_refl _) o
        have HL := hid hL
        clear hL
        have hdr : (dvs L).drop (1 * 2) = dvs l2 := by rw [← HL.out]; rfl
        by_cases hc : cap = 1
        · have Hdr := hid hdr
          clear hdr
          go_wp2
          go_roundw
          case rel =>
            refine ⟨max u' y, l2, by rw [← Hm.out], ?_, by rw [← Ht.out, ← Hf.out], Hm0.out, Hm1.out, Hls.out, fun k hk => by simp [Value.rb] at hk, Hp.out.then_ (Hpa.out _)⟩
            have := l2.length
            obtain rfl : l2 = [] := List.eq_nil_of_length_eq_zero (by omega)
            exact ⟨rfl, _, _, rfl, Nat.le_refl _, Nat.zero_le _, .inl rfl⟩
          case measure => simp [vlen]; omega
        · have Hsuf := hid (fun W (hW : Pure wr W) => row_suf (Row.pure Hd.out hW) (k := 1) (by omega))
          rw [hdr, Nat.one_mul, show L.length - 1 = l2.length by omega] at Hsuf
          clear hdr
          go_wp2
          go_roundw
          case rel =>
            refine ⟨max u' y, l2, by rw [← Hm.out], Hsuf.out _ (Hpa.out _), by rw [← Ht.out, ← Hf.out], Hm0.out, Hm1.out, Hls.out, fun k hk => Hrb.out k ?_, Hp.out.then_ (Hpa.out _)⟩
            simp only [Value.rb] at hk ⊢
            rw [if_neg (by omega)] at hk
            rw [if_neg (by omega)]; exact hk
          case measure => simp [vlen]; omega
end Go.Proofs.YtdlpnhfgjficgaaGreat

namespace Go.Proofs.YtdlpnhfgjficgaaGreat
open Go.RowKit Go.Maps Go.Shelf Go.Sort

theorem len_tr (l : List Int) : (tr l).length = l.length := by simp [tr]
theorem keys_tr (l : List Int) : (tr l).map (·.1) = l := by unfold tr; rw [List.map_map]; exact List.map_id l
theorem mput_tr_mem (l : List Int) (k : Int) (h : k ∈ l) : mput (tr l) k true = tr l := by
  induction l with
  | nil => simp at h
  | cons a l ih =>
    simp only [tr, List.map_cons, mput] at *
    by_cases e : a = k
    · subst e; simp
    · rw [if_neg (by simpa using e), ih (by rcases List.mem_cons.1 h with h | h; exact absurd h.symm e; exact h)]
theorem mput_dd (l : List Int) (k : Nat) (h : k < l.length) : mput (tr (dd (l.take k))) (l.getD k 0) true = tr (dd (l.take (k + 1))) := by
  rw [dd_take l k h]
  split
  · rename_i hm; exact mput_tr_mem _ _ hm
  · rename_i hm; exact mput_tr _ _ hm
theorem map_getD_fst (L : List Dot) (k : Nat) (h : k < L.length) : (L.map (·.1)).getD k 0 = (L.getD k (0, 0)).1 := by simp [List.getD, h]
theorem ddo_spec : ∀ (l acc : List Int), acc.Nodup → (ddo acc l).Nodup ∧ ∀ x, x ∈ ddo acc l ↔ x ∈ acc ∨ x ∈ l
  | [], acc, h => ⟨h, by simp [ddo]⟩
  | a :: l, acc, h => by
    unfold ddo
    by_cases ha : a ∈ acc
    · rw [if_pos ha]
      obtain ⟨h1, h2⟩ := ddo_spec l acc h
      refine ⟨h1, fun x => (h2 x).trans ?_⟩
      simp only [List.mem_cons]
      constructor
      · rintro (h | h)
        · exact .inl h
        · exact .inr (.inr h)
      · rintro (h | rfl | h)
        · exact .inl h
        · exact .inl ha
        · exact .inr h
    · rw [if_neg ha]
      obtain ⟨h1, h2⟩ := ddo_spec l (acc ++ [a]) (by rw [List.nodup_append]; exact ⟨h, by simp, fun x hx y hy e => ha (by simp at hy; rw [← hy, ← e]; exact hx)⟩)
      refine ⟨h1, fun x => (h2 x).trans ?_⟩
      simp [or_assoc]
theorem sorted_eq_i : ∀ {l k : List Int}, l.Pairwise (· < ·) → k.Pairwise (· < ·) → (∀ x, x ∈ l ↔ x ∈ k) → l = k
  | [], [], _, _, _ => rfl
  | [], b :: k, _, _, h => absurd ((h b).2 (by simp)) (by simp)
  | a :: l, [], _, _, h => absurd ((h a).1 (by simp)) (by simp)
  | a :: l, b :: k, h1, h2, h => by
    obtain ⟨p1, p2⟩ := List.pairwise_cons.1 h1
    obtain ⟨q1, q2⟩ := List.pairwise_cons.1 h2
    have hab : a = b := by
      rcases List.mem_cons.1 ((h a).1 (by simp)) with e | e
      · exact e
      · rcases List.mem_cons.1 ((h b).2 (by simp)) with e' | e'
        · exact e'.symm
        · have := p1 b e'; have := q1 a e; omega
    subst hab
    congr 1
    refine sorted_eq_i p2 q2 (fun x => ?_)
    have hx := h x
    simp only [List.mem_cons] at hx
    constructor
    · intro hm
      rcases hx.1 (.inr hm) with e | e
      · have := p1 x hm; omega
      · exact e
    · intro hm
      rcases hx.2 (.inr hm) with e | e
      · have := q1 x hm; omega
      · exact e
theorem srt_mem (l : List Int) (x : Int) : x ∈ srt l ↔ x ∈ l := by unfold srt; exact (List.mergeSort_perm l _).mem_iff
theorem srt_lt {l : List Int} (h : l.Nodup) : (srt l).Pairwise (· < ·) := by
  have h1 : (srt l).Pairwise (fun x y => x ≤ y) := by
    have := List.pairwise_mergeSort (le := fun (x y : Int) => decide (x ≤ y)) (by intro a b c; simp; omega) (by intro a b; simp; omega) l
    exact this.imp (fun {a b} h => by simpa using h)
  have h2 : (srt l).Nodup := (List.mergeSort_perm l _).nodup_iff.2 h
  exact (h1.and h2).imp (fun {a b} h => by have := h.1; have := h.2; omega)
theorem srt_nodes (B C : List Dot) : srt (dd ((B ++ C).map (·.1))) = cnodes B C := by
  obtain ⟨h1, h2⟩ := cnodes_spec B C
  obtain ⟨g1, g2⟩ := ddo_spec ((B ++ C).map (·.1)) [] List.nodup_nil
  refine sorted_eq_i (srt_lt g1) h1 (fun x => ?_)
  rw [srt_mem, h2]
  refine (g2 x).trans ?_
  simp only [List.not_mem_nil, false_or, List.mem_map, List.mem_append]

def NdP (B C : List Dot) (w : World) (e : Ending) (w' : World) : Prop := ∃ v', e = .returned v' ∧ w'.ownsRow w.heap.size 3 1 v' (cnodes B C).length ((cnodes B C).map (Value.int .i64)) ∧ Pure w w'
set_option maxRecDepth 8000 in
set_option maxHeartbeats 2000000 in
theorem nodes_any (vb vc : Value) (B C : List Dot) (w : World) (hB : Dots w vb B) (hC : Dots w vc C) (hl1 : B.length ≤ 100000) (hl2 : C.length ≤ 100000) (hwf : ∀ d ∈ B ++ C, (Lit.int .i64 d.1).wf = true) :
    Calls Tryz.prog 185 #[cv vb vc] w (NdP B C w) := by
  obtain ⟨W1, hW1⟩ : ∃ W1, W1 = ((w.alloc (.cells #[vb, vc] 32)).alloc (.map #[] 0)).alloc (.cells #[vb, vc] 30) := ⟨_, rfl⟩
  have Hp1 := hid (show Pure w W1 from by rw [hW1]; exact (((Below.refl _ _).alloc (Nat.le_refl _) _).alloc (by simp) _).alloc (by simp; omega) _)
  have hs1 : W1.heap.size = w.heap.size + 3 := by rw [hW1]; simp
  have hm1 : IMap Value.bool W1 (w.heap.size + 1) (tr (dd [])) := by
    have := IMap.made Value.bool (w.alloc (.cells #[vb, vc] 32))
    rw [hW1]
    have h2 := IMap.pure this ((Below.refl _ _).alloc (Nat.le_refl _) (.cells #[vb, vc] 30))
    have e : tr (dd []) = [] := rfl
    rw [e]
    simpa using h2
  have hb2 : W1.heap[w.heap.size + 2]? = some (.cells #[vb, vc] 30 (0, 0)) := by
    rw [hW1]
    have := block_alloc_new ((w.alloc (.cells #[vb, vc] 32)).alloc (.map #[] 0)) (.cells #[vb, vc] 30)
    simpa using this
  have c0 : W1.cell? ⟨w.heap.size + 2, 0, none⟩ = some vb := cell_of_block hb2 0
  have c1 : W1.cell? ⟨w.heap.size + 2, 1, none⟩ = some vc := cell_of_block hb2 1
  have Hcc := hid (fun cp => concatd_any (w.heap.size + 2) cp vb vc B C W1 c0 c1 (Row.pure hB Hp1.out) (Row.pure hC Hp1.out) hl1 hl2 (by omega))
  obtain ⟨a0, q0, rfl⟩ := hB.shape
  obtain ⟨a1, q1, rfl⟩ := hC.shape
  have Hm1 := hid hm1
  have Hs1 := hid hs1
  have hx0 : (w.alloc (.cells #[.slice a0 B.length q0, .slice a1 C.length q1] 32)).cell? ⟨w.heap.size, 0, none⟩ = some (.slice a0 B.length q0) := by rw [World.cell?_alloc_new]; simp
  have hx1 : (w.alloc (.cells #[.slice a0 B.length q0, .slice a1 C.length q1] 32)).cell? ⟨w.heap.size, 1, none⟩ = some (.slice a1 C.length q1) := by rw [World.cell?_alloc_new]; simp
  clear hB hC hm1 hb2 c0 c1 hs1
  unfold cv
  have hmm := @run_makeMap Tryz.prog
  have Hwf := hid (fun k (hk : k < (B ++ C).length) => (show (Lit.int .i64 (((B ++ C).map (·.1)).getD k 0)).wf = true from by
    rw [map_getD_fst _ _ hk]; exact hwf _ (getD_mem_d hk)))
  have Hput := hid (fun k (hk : k < (B ++ C).length) => mput_dd ((B ++ C).map (·.1)) k (by simpa using hk))
  have Hget := hid (fun k (hk : k < (B ++ C).length) => (show ((B ++ C).map (·.1)).getD k 0 = ((B ++ C).getD k (0, 0)).1 from map_getD_fst _ _ hk))
  have hcat : (B ++ C).length ≤ 200000 := by simp; omega
  have Hnod := hid (srt_nodes B C)
  have Hbdd := hid (dd_len ((B ++ C).map (·.1)))
  rw [List.length_map] at Hbdd
  clear hwf
  generalize hL : B ++ C = L at *
  clear hL
  go_enter Tryz.func185, Tryz.ntmps185
  go_wp2_with fail
  rw [← hW1]
  clear hW1 hx0 hx1 hmm
  refine (Hcc.out _).mono ?_
  rintro e w2 ⟨v2, rfl, hown, hp2⟩
  have Hp2 := hid hp2
  have Hrow := hid (show Dots w2 v2 L from Row.of_own hown)
  have Hblk := hid (fun k (hk : v2.rb = some k) => (hown.lt k (rb_own hk)).1)
  have Hm2 := hid (show IMap Value.bool w2 (w.heap.size + 1) (tr (dd [])) from Hm1.out.pure hp2)
  obtain ⟨a2, q2, rfl⟩ := own_shape_d hown
  clear hown hp2 Hcc
  go_wp2
  go_loopw [14] (fun i wr => ∃ k : Nat, k ≤ L.length ∧ i = .int .i64 k ∧ IMap Value.bool wr (w.heap.size + 1) (tr (dd ((L.map (·.1)).take k))) ∧ Kept (fun j => j = w.heap.size + 1) w2 wr) (fun i _ => L.length - (RowKit.intOf i).toNat)
  case atStart => exact ⟨0, Nat.zero_le _, rfl, Hm2.out, Kept.refl _ _⟩
  case round =>
    obtain ⟨k, hk, rfl, hmap, hkp⟩ := hrel
    have Hkp := hid hkp
    have Hmap := hid hmap
    by_cases hlt : k < L.length
    · obtain ⟨b, off, rfl, hb0, x0, x1⟩ := Dots.get (show Dots wr (.slice a2 L.length q2) L from Row.kept Hrow.out hkp (fun j hj e => by have := Hblk.out j hj; have := Hs1.out; omega)) hlt
      have hlt' : (k : Int) < (L.length : Int) := by omega
      have Hp := hid (Hput.out k hlt)
      have hw := Hwf.out k hlt
      rw [Hget.out k hlt] at Hp hw
      generalize L.getD k (0, 0) = z at *
      obtain ⟨z1, z2⟩ := z
      dsimp only at x0 x1 hw Hp
      have Hma := hid (hmap.pure (show Pure wr (wr.alloc (.cells #[.int .i64 z1, .int .i64 z2] 28)) from (Below.refl _ _).alloc (Nat.le_refl _) _))
      clear hmap hkp hb0
      go_wp2_with (at_mapUpdate; refine wpList_put Value.bool _ rfl _ _ _ 204 rfl 3 4 Tryz.underlying3 Tryz.underlying204 (w.heap.size + 1) (tr (dd ((L.map (·.1)).take k))) rfl Hma.out z1 hw true rfl rfl ?_; intro w3 hmap3 hg3 hs3; have Hmap3 := hid hmap3; have Hg3 := hid hg3; clear hmap3 hg3 hs3)
      go_roundw
      case rel => exact ⟨k + 1, by omega, by go_num, by rw [← Hp.out]; exact Hmap3.out, (Hkp.out.alloc _).grown Hg3.out (fun j hj _ => by cases hj; rfl)⟩
      case measure => simp [RowKit.intOf]; omega
    · obtain rfl : k = L.length := by omega
      have hlt' : ¬ (L.length : Int) < (L.length : Int) := by omega
      rw [List.take_of_length_le (by simp)] at Hmap
      have Hk := hid (keys_call (some (w.heap.size + 1)) wr)
      have hs := sorted_call Value.bool (w.heap.size + 1) (tr (dd (L.map (·.1)))) wr Hmap.out (by rw [len_tr]; have := Hbdd.out; omega)
      rw [keys_tr, Hnod.out] at hs
      have Hs := hid hs
      clear hs hmap hkp
      go_wp2_with fail
      refine Hk.out.mono ?_
      rintro e w3 ⟨rfl, rfl⟩
      go_wp2_with fail
      refine Hs.out.mono ?_
      rintro e w4 ⟨v4, rfl, hown4, hp4⟩
      have hq : w.heap.size ≤ wr.heap.size := by have := Hkp.out.size; have := Hp2.out.size; have := Hs1.out; omega
      have Hown4 := hid (own_mono hown4 hq)
      have Hp4 := hid (show Pure w w4 from by
        have h1 : Kept (fun j => w.heap.size ≤ j) w w2 := (Hp1.out.then_ Hp2.out).kept
        have h2 : Kept (fun j => w.heap.size ≤ j) w w4 := (h1.trans (Hkp.out.mono (fun j _ e => by omega))).trans hp4.kept
        exact h2.below (Nat.le_refl _) (fun j hj e => by omega))
      obtain ⟨a4, q4, rfl⟩ := (Row.of_own hown4).shape
      clear hown4 hp4 hq
      go_wp2
      go_ret
      exact ⟨_, rfl, Hown4.out, Hp4.out⟩
end Go.Proofs.YtdlpnhfgjficgaaGreat

namespace Go.Proofs.YtdlpnhfgjficgaaGreat
open Go.RowKit Go.Maps Go.Shelf Go.Sort

/-- What is taken of a node of both. -/
def jtk (aB bB cl : List Dot) (x : Int) : Int × List Dot := takenL (max (cbase aB x) (cbase bB x)) (onode cl x)
def jput (aB bB cl : List Dot) (s : List Dot × List Dot) (x : Int) : List Dot × List Dot := (if 0 < (jtk aB bB cl x).1 then s.1 ++ [(x, (jtk aB bB cl x).1)] else s.1, s.2 ++ (jtk aB bB cl x).2)
theorem jput_step (aB bB cl : List Dot) : jput aB bB (dsort cl) = jstep aB bB cl := by
  funext s x
  have e : jtk aB bB (dsort cl) x = cof x (max (cbase aB x) (cbase bB x)) cl := by rw [cof_taken]; rfl
  unfold jput jstep
  rw [e]
theorem takenL_len : ∀ (l : List Dot) (u : Int), (takenL u l).2.length ≤ l.length
  | [], u => by simp [takenL]
  | d :: l, u => by
    unfold takenL
    split
    · simp
    · have := takenL_len l (max u d.2); simp; omega
theorem takenL_bd : ∀ (l : List Dot) (u M : Int), 0 ≤ u → u ≤ M → (∀ d ∈ l, d.2 ≤ M) → 0 ≤ (takenL u l).1 ∧ (takenL u l).1 ≤ M
  | [], u, M, h0, h1, _ => ⟨h0, h1⟩
  | d :: l, u, M, h0, h1, h => by
    unfold takenL
    have hd := h d (by simp)
    split
    · exact ⟨h0, h1⟩
    · exact takenL_bd l _ M (by omega) (by omega) (fun x hx => h x (List.mem_cons_of_mem _ hx))

/-- What lies in memory when put is called: both contexts, both clouds together, and the outcome (block o). -/
structure PutW (na nb nq o : Nat) (va0 va1 vb0 vb1 vq : Value) (aB bB cl : List Dot) (w6 : World) : Prop where
  a : w6.heap[na]? = some (.cells #[va0, va1] 32 (0, 0))
  b : w6.heap[nb]? = some (.cells #[vb0, vb1] 32 (0, 0))
  q : w6.heap[nq]? = some (.cells #[vq] 30 (0, 0))
  ao : na ≠ o
  bo : nb ≠ o
  qo : nq ≠ o
  o6 : o < w6.heap.size
  ra : Dots w6 va0 aB
  rb : Dots w6 vb0 bB
  rq : Dots w6 vq cl
  xa : ∀ k, va0.rb = some k → k ≠ o
  xb : ∀ k, vb0.rb = some k → k ≠ o
  xq : ∀ k, vq.rb = some k → k ≠ o
  sa : Rise aB
  sb : Rise bB
  ba : ∀ d ∈ aB, 0 ≤ d.2 ∧ d.2 ≤ 1152921504606846976
  bb : ∀ d ∈ bB, 0 ≤ d.2 ∧ d.2 ≤ 1152921504606846976
  bq : ∀ d ∈ cl, d.2 ≤ 1152921504606846976
  la : aB.length ≤ 1000
  lb : bB.length ≤ 1000
  lq : cl.length ≤ 1000
def PutS (na nb nq : Nat) (va0 va1 vb0 vb1 vq : Value) (W0 W : World) : Prop :=
  W.cell? ⟨na, 0, none⟩ = some va0 ∧ W.cell? ⟨na, 1, none⟩ = some va1 ∧ W.cell? ⟨nb, 0, none⟩ = some vb0 ∧ W.cell? ⟨nb, 1, none⟩ = some vb1 ∧ W.cell? ⟨nq, 0, none⟩ = some vq ∧ Pure W0 W
theorem PutW.st {na nb nq o : Nat} {va0 va1 vb0 vb1 vq : Value} {aB bB cl : List Dot} {w6 W0 W : World} (h : PutW na nb nq o va0 va1 vb0 vb1 vq aB bB cl w6) (hk : Kept (fun k => k = o) w6 W0) (hp : Pure W0 W) : PutS na nb nq va0 va1 vb0 vb1 vq W0 W := by
  have hK := hk.trans (hp.kept (S := fun k => k = o))
  have ea := (hK.block _ (lt_of_block h.a) h.ao).trans h.a
  have eb := (hK.block _ (lt_of_block h.b) h.bo).trans h.b
  have eq := (hK.block _ (lt_of_block h.q) h.qo).trans h.q
  exact ⟨cell_of_block ea 0, cell_of_block ea 1, cell_of_block eb 0, cell_of_block eb 1, cell_of_block eq 0, hp⟩
def PutP (o : Nat) (w6 : World) (aB bB cl : List Dot) (L0 L1 : List Dot) (x : Int) (e : Ending) (w' : World) : Prop :=
  e = .returned (.tuple #[]) ∧ ∃ y0 y1, JL o w6 y0 y1 (jput aB bB cl (L0, L1) x).1 (jput aB bB cl (L0, L1) x).2 w'

theorem apart9 {o base n : Nat} {w6 W w9 w10 : World} {y0 y1 v9 v10 : Value} {L0 L1 : List Dot} {xs : List Value} (h : w9.ownsRow base 28 2 v9 n xs) (hb : W.heap.size ≤ base) (hp : Pure w9 w10) (hL : JL o w6 y0 y1 L0 L1 W) (hr : ∀ k, v10.rb = some k → v9.rb = some k) : ∀ g, v10.rb = some g → (y0.ownBlock ≠ some g ∧ y1.ownBlock ≠ some g) ∧ g ≠ o ∧ g < w10.heap.size := by
  intro g hg
  obtain ⟨g1, g2⟩ := h.lt g (rb_own (hr g hg))
  have ho := lt_of_block hL.out
  have := hp.size
  exact ⟨⟨fun e => by have := (hL.r0.lt g e).2; omega, fun e => by have := (hL.r1.lt g e).2; omega⟩, by omega, by omega⟩
set_option maxRecDepth 8000 in
set_option maxHeartbeats 4000000 in
theorem put_any (na nb nq o : Nat) (va0 va1 vb0 vb1 vq : Value) (aB bB cl : List Dot) (w6 W0 : World) (h : PutW na nb nq o va0 va1 vb0 vb1 vq aB bB cl w6) (x : Int) (y0 y1 : Value) (L0 L1 : List Dot) (hL : JL o w6 y0 y1 L0 L1 W0) (l0 : L0.length ≤ 100000) (l1 : L1.length ≤ 999000) :
    Calls Tryz.prog 181 (#[.int .i64 x] ++ #[.pointer (some ⟨na, 0, none⟩), .pointer (some ⟨nb, 0, none⟩), .pointer (some ⟨nq, 0, none⟩), .pointer (some ⟨o, 0, none⟩)]) W0 (PutP o w6 aB bB cl L0 L1 x) := by
  obtain ⟨i0, hi, hz0, hz1, hz2⟩ := info_parts infoDot
  have hS := hid (fun W (hW : Pure W0 W) => h.st hL.k hW)
  have hst := hid (hS.out W0.drew (Below.refl _ _).drew)
  have hS2 := hid (fun W (hW : PutS na nb nq va0 va1 vb0 vb1 vq W0 W) => hW.2.2.2.2.2)
  have hrow : ∀ {v : Value} {l : List Dot}, Dots w6 v l → (∀ k, v.rb = some k → k ≠ o) → ∀ W, Pure W0 W → Dots W v l := fun hv hx W hW => Row.pure (Row.kept hv hL.k (fun k hk e => hx k hk e)) hW
  have hua := hid (fun W (hW : Pure W0 W) => upto_any va0 va1 aB x W (hrow h.ra h.xa W hW) h.sa (fun d hd => (h.ba d hd).1) (by have := h.la; omega))
  have hub := hid (fun W (hW : Pure W0 W) => upto_any vb0 vb1 bB x W (hrow h.rb h.xb W hW) h.sb (fun d hd => (h.bb d hd).1) (by have := h.lb; omega))
  have hof := hid (fun W (hW : Pure W0 W) => of_any vq cl x W (hrow h.rq h.xq W hW) (by have := h.lq; omega))
  obtain ⟨a0, a1⟩ := cbase_bd h.ba (by decide) x
  obtain ⟨b0, b1⟩ := cbase_bd h.bb (by decide) x
  have hon : ∀ d ∈ onode cl x, d.2 ≤ 1152921504606846976 := fun d hd => h.bq d (List.mem_filter.1 hd).1
  obtain ⟨M, hM⟩ : ∃ M, M = max (cbase aB x) (cbase bB x) := ⟨_, rfl⟩
  have htk := hid (fun W v u (hu : u = M) (hv : Dots W v (onode cl x)) => (taken_any u v (onode cl x) W hv (by omega) (by omega) hon).mono (fun e w' hk => (show (∃ v', e = .returned (.tuple #[.int .i64 (takenL M (onode cl x)).1, v']) ∧ Dots w' v' (takenL M (onode cl x)).2 ∧ (∀ k, v'.rb = some k → v.rb = some k) ∧ Pure W w') from by
    subst hu; obtain ⟨⟨v', h1, h2, h3⟩, h4⟩ := hk; exact ⟨v', h1, h2, h3, h4⟩)))
  have hR := hid (takenL_bd (onode cl x) M 1152921504606846976 (by omega) (by omega) hon)
  have hRl := hid (show (takenL M (onode cl x)).2.length ≤ 1000 from Nat.le_trans (takenL_len _ _) (Nat.le_trans (List.length_filter_le _ _) h.lq))
  have HL := hid hL
  have Ho := hid h.o6
  unfold PutP jput jtk
  clear hL h hrow hon
  unfold cv at *
  unfold PutS at *
  have hmx : (if cbase aB x < cbase bB x then cbase bB x else cbase aB x) = M := by omega
  rw [← hM]
  generalize cbase aB x = A at *
  generalize cbase bB x = B at *
  have hmm := hid hM
  clear hM
  generalize takenL M (onode cl x) = R at *
  obtain ⟨R0, R1⟩ := R
  dsimp only at htk hR hRl ⊢
  go_enter Tryz.func181, Tryz.ntmps181
  go_wp2_with fail
  go_region_held3 (fun W => W.cell? ⟨na, 0, none⟩ = some va0 ∧ W.cell? ⟨na, 1, none⟩ = some va1 ∧ W.cell? ⟨nb, 0, none⟩ = some vb0 ∧ W.cell? ⟨nb, 1, none⟩ = some vb1 ∧ W.cell? ⟨nq, 0, none⟩ = some vq ∧ Pure W0 W)
    (first | assumption | with_reducible exact hst.out | with_reducible exact hS.out _ (Pure.then_ (hS2.out _ (by assumption)) (by assumption)))
    ((first
      | (go_at_call 183; (with_reducible refine (hua.out _ (hS2.out _ (by assumption))).mono ?_); rintro e w7 ⟨rfl, hp7⟩)
      | (go_at_call 183; (with_reducible refine (hub.out _ (hS2.out _ (by assumption))).mono ?_); rintro e w8 ⟨rfl, hp8⟩)
      | (go_at_call 184; (with_reducible refine (hof.out _ (hS2.out _ (by assumption))).mono ?_); rintro e w9 ⟨v9, rfl, hd9, hp9⟩; obtain ⟨a9, c9, rfl⟩ := own_shape_d hd9)
      | (go_at_call 182; refine (htk.out _ _ _ (by omega) (Row.of_own hd9)).mono ?_; rintro e w10 ⟨v10, rfl, hd10, hrb10, hp10⟩; obtain ⟨a10, c10, rfl⟩ := hd10.shape)))
  all_goals
    have hW10 : Pure W0 w10 := hS2.out w10 (by assumption)
    have hb9 := hid (show W0.heap.size ≤ w9.heap.size from by have h7 := hp7.size; have h8 := hp8.size; have h9 := hp9.size; have h0 : W0.drew.heap.size = W0.heap.size := rfl; omega)
    have hap := hid (apart9 hd9 (show W0.heap.size ≤ _ from by have h7 := hp7.size; have h8 := hp8.size; have h9 := hp9.size; have h0 : W0.drew.heap.size = W0.heap.size := rfl; omega) hp10 HL.out hrb10)
    have HL10 := hid (HL.out.pure hW10)
    have HR := hid hd10
    clear hst hS hS2 hua hub hof htk hp7 hp8 hp9 hp10 hd9 hd10 hrb10 hb9 hW10
    obtain ⟨r0, r1⟩ := hR.out
    have hRl' := hRl.out
    have ho6 := Ho.out
    have h106 : w6.heap.size ≤ w10.heap.size := HL10.out.k.size
    obtain ⟨o0, o1, of0, of1⟩ := HL10.out.cells
    by_cases hpos : 0 < R0
    · have hstL : Hid (∀ (v' : Value) (w' : World), w'.ownsRow w6.heap.size 28 2 v' (L0.length + 1) (dvs L0 ++ dvs [(x, R0)]) → (w10.alloc (.cells #[.int .i64 x, .int .i64 R0] 28)).grownBy w' y0.ownBlock → FreshOr (w10.alloc (.cells #[.int .i64 x, .int .i64 R0] 28)) y0 v' →
          w'.heap[o]? = some (.cells #[y0, y1] 32 (0, 0)) ∧ JL o w6 v' y1 (L0 ++ [(x, R0)]) L1 (w'.setCell ⟨o, 0, none⟩ v') ∧ Row (w'.setCell ⟨o, 0, none⟩ v') (.slice a10 R1.length c10) R1.length 2 (dvs R1)) := fun v' w' h1 h2 h3 => by
        have hJ := HL10.out.pure (show Pure w10 (w10.alloc (.cells #[.int .i64 x, .int .i64 R0] 28)) from (Below.refl _ _).alloc (Nat.le_refl _) _)
        obtain ⟨g1, g2⟩ := JL.grow0 hJ h2 (L0' := L0 ++ [(x, R0)]) (by rw [dvs_append, List.length_append]; exact h1) h3 ho6
        refine ⟨g1, g2, Row.same HR.out fun g hg => ?_⟩
        obtain ⟨⟨p1, _⟩, p2, p3⟩ := hap.out g hg
        have e1 : (w'.setCell ⟨o, 0, none⟩ v').heap[g]? = w'.heap[g]? := (kept_set w' o 0 v').block g (Nat.lt_of_lt_of_le p3 (Nat.le_trans (by simp) h2.size)) p2
        rw [e1, h2.block g (by simp; omega) (fun e => p1 e.symm)]
        rw [Below.heap_alloc _ _ _ p3]
      have hpos' := hid hpos
      go_wp2_with (at_builtin; refine wpList_append_rows2 rfl _ _ 30 rfl w6.heap.size 28 i0 (.agg #[.int .i64 0, .int .i64 0]) 2 16 Tryz.underlying30 hi hz0 hz1 hz2 rfl (by decide) (by decide) y0 L0.length (dvs L0) rfl (World.ownsRow.alloc HL10.out.r0 _) _ 1 (dvs [(x, R0)]) rfl (dots_lit _ x R0) (dvs_one _) (by omega) (by simp; omega) ?_)
      intro v' w' hown' hg' hf'
      obtain ⟨hb', hL', hR'⟩ := hstL.out v' w' hown' hg' hf'
      have s1 : w'.cell? ⟨o, 0, none⟩ = some y0 := cell_of_block hb' 0
      have s2 : w'.frozen? ⟨o, 0, none⟩ = false := free_of_block hb' 0
      have s3 : w'.cell? ⟨o, 1, none⟩ = some y1 := cell_of_block hb' 1
      have s4 : w'.frozen? ⟨o, 1, none⟩ = false := free_of_block hb' 1
      obtain ⟨a9, c9, rfl⟩ := own_shape_d hown'
      have HL11 := hid hL'
      have HR11 := hid hR'
      clear hb' hown' hg' hf' hL' hR' hstL
      go_wp2_with (at_builtin; refine wpList_append_rows2 rfl _ _ 30 rfl w6.heap.size 28 i0 (.agg #[.int .i64 0, .int .i64 0]) 2 16 Tryz.underlying30 hi hz0 hz1 hz2 rfl (by decide) (by decide) y1 L1.length (dvs L1) rfl HL11.out.r1 _ R1.length (dvs R1) rfl HR11.out (dvs_one _) (by omega) HL11.out.k.size ?_)
      intro v12 w12 hown12 hg12 hf12
      obtain ⟨hb12, hL12⟩ := JL.grow1 HL11.out hg12 (L1' := L1 ++ R1) (by rw [dvs_append, List.length_append]; exact hown12) hf12 ho6
      have u1 : w12.cell? ⟨o, 1, none⟩ = some y1 := cell_of_block hb12 1
      have u2 : w12.frozen? ⟨o, 1, none⟩ = false := free_of_block hb12 1
      obtain ⟨a12, c12, rfl⟩ := own_shape_d hown12
      have HL12 := hid hL12
      clear hown12 hg12 hf12 hb12 hL12
      go_wp2
      go_end0
      exact ⟨rfl, _, _, HL12.out⟩
    · have hpos' := hid hpos
      have hle : R0 ≤ 0 := by omega
      go_wp2_with (at_builtin; refine wpList_append_rows2 rfl _ _ 30 rfl w6.heap.size 28 i0 (.agg #[.int .i64 0, .int .i64 0]) 2 16 Tryz.underlying30 hi hz0 hz1 hz2 rfl (by decide) (by decide) y1 L1.length (dvs L1) rfl HL10.out.r1 _ R1.length (dvs R1) rfl HR.out (dvs_one _) (by omega) HL10.out.k.size ?_)
      intro v12 w12 hown12 hg12 hf12
      obtain ⟨hb12, hL12⟩ := JL.grow1 HL10.out hg12 (L1' := L1 ++ R1) (by rw [dvs_append, List.length_append]; exact hown12) hf12 ho6
      have u1 : w12.cell? ⟨o, 1, none⟩ = some y1 := cell_of_block hb12 1
      have u2 : w12.frozen? ⟨o, 1, none⟩ = false := free_of_block hb12 1
      obtain ⟨a12, c12, rfl⟩ := own_shape_d hown12
      have HL12 := hid hL12
      clear hown12 hg12 hf12 hb12 hL12
      go_wp2
      go_end0
      exact ⟨rfl, _, _, HL12.out⟩
end Go.Proofs.YtdlpnhfgjficgaaGreat

