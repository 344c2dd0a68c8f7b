/- ctx.Join. ctx: Part, Covers. ctx: Next. ctx: Add. dot.Rises, of a row that does. -/
import Derived.Test.YtdlpnhfgjficgaaGreatMQab
import Derived.Test.YtdlpnhfgjficgaaGreatEqD
namespace Go.Proofs.YtdlpnhfgjficgaaGreat
open Go.RowKit Go.Maps Go.Shelf Go.Sort

theorem cnodes_sort (B C : List Dot) : cnodes B (dsort C) = cnodes B C := by
  obtain ⟨h1, h2⟩ := cnodes_spec B (dsort C)
  obtain ⟨g1, g2⟩ := cnodes_spec B C
  refine sorted_eq_i h1 g1 (fun x => ?_)
  rw [h2, g2]
  simp only [(dsort_spec C).2]
/-- What a context in a join must be. -/
structure JOk (B C : List Dot) : Prop where
  sb : Rise B
  bb : ∀ d ∈ B, 0 ≤ d.2 ∧ d.2 ≤ 1152921504606846976
  bc : ∀ d ∈ C, d.2 ≤ 1152921504606846976
  wb : ∀ d ∈ B, (Lit.int .i64 d.1).wf = true
  wc : ∀ d ∈ C, (Lit.int .i64 d.1).wf = true
/-- The blocks that Join lays first. -/
structure JnW (s : Nat) (va0 va1 vb0 vb1 : Value) (W : World) : Prop where
  a : W.heap[s]? = some (.cells #[va0, va1] 32 (0, 0))
  b : W.heap[s + 1]? = some (.cells #[vb0, vb1] 32 (0, 0))
  r : W.heap[s + 2]? = some (.cells #[.slice none 0 0, .slice none 0 0] 32 (0, 0))
  o : W.heap[s + 3]? = some (.cells #[.slice none 0 0, .slice none 0 0] 32 (0, 0))
theorem JnW.pure {s : Nat} {va0 va1 vb0 vb1 : Value} {W W' : World} (h : JnW s va0 va1 vb0 vb1 W) (hp : Pure W W') : JnW s va0 va1 vb0 vb1 W' :=
  ⟨(hp.block _ (lt_of_block h.a)).trans h.a, (hp.block _ (lt_of_block h.b)).trans h.b, (hp.block _ (lt_of_block h.r)).trans h.r, (hp.block _ (lt_of_block h.o)).trans h.o⟩
theorem JnW.cells {s : Nat} {va0 va1 vb0 vb1 : Value} {W : World} (h : JnW s va0 va1 vb0 vb1 W) : W.cell? ⟨s, 0, none⟩ = some va0 ∧ W.cell? ⟨s, 1, none⟩ = some va1 ∧ W.cell? ⟨s + 1, 0, none⟩ = some vb0 ∧ W.cell? ⟨s + 1, 1, none⟩ = some vb1 :=
  ⟨cell_of_block h.a 0, cell_of_block h.a 1, cell_of_block h.b 0, cell_of_block h.b 1⟩
theorem JnW.made (w : World) (va0 va1 vb0 vb1 : Value) : ∃ wz, wz = (((w.alloc (.cells #[va0, va1] 32)).alloc (.cells #[vb0, vb1] 32)).alloc (.cells #[.slice none 0 0, .slice none 0 0] 32)).alloc (.cells #[.slice none 0 0, .slice none 0 0] 32) ∧
    Pure w wz ∧ wz.heap.size = w.heap.size + 4 ∧ JnW w.heap.size va0 va1 vb0 vb1 wz := by
  refine ⟨_, rfl, ((((Below.refl _ _).alloc (Nat.le_refl _) _).alloc (by simp) _).alloc (by simp; omega) _).alloc (by simp; omega) _, by simp, ?_⟩
  have n1 := block_alloc_new (w.alloc (.cells #[va0, va1] 32)) (.cells #[vb0, vb1] 32)
  have n2 := block_alloc_new ((w.alloc (.cells #[va0, va1] 32)).alloc (.cells #[vb0, vb1] 32)) (.cells #[.slice none 0 0, .slice none 0 0] 32)
  have n3 := block_alloc_new (((w.alloc (.cells #[va0, va1] 32)).alloc (.cells #[vb0, vb1] 32)).alloc (.cells #[.slice none 0 0, .slice none 0 0] 32)) (.cells #[.slice none 0 0, .slice none 0 0] 32)
  simp only [World.size_alloc] at n1 n2 n3
  exact ⟨block_alloc_old (block_alloc_old (block_alloc_old (block_alloc_new w _) _) _) _, block_alloc_old (block_alloc_old n1 _) _, block_alloc_old n2 _, n3⟩

set_option maxRecDepth 8000 in
set_option maxHeartbeats 4000000 in
theorem join_any (va0 va1 vb0 vb1 : Value) (aB aC bB bC : List Dot) (w : World) (h1 : Dots w va0 aB) (h2 : Dots w va1 aC) (h3 : Dots w vb0 bB) (h4 : Dots w vb1 bC) (hl : aB.length + aC.length + bB.length + bC.length ≤ 1000) (ha : JOk aB aC) (hb : JOk bB bC) :
    Calls Tryz.prog 142 #[cv va0 va1, cv vb0 vb1] w (CtxF w (cjoin aB aC bB bC).1 (cjoin aB aC bB bC).2) := by
  obtain ⟨wz, hwz, hpz, hsz, hJ⟩ := JnW.made w va0 va1 vb0 vb1
  have hrow : Hid (∀ {v : Value} {l : List Dot}, Dots w v l → ∀ W, Pure wz W → Dots W v l) := fun hv W hW => Row.pure hv (hpz.then_ hW)
  have HJ := hid (fun W (hW : Pure wz W) => hJ.pure hW)
  have hcat := hid (fun W k cp v1 v2 l1 l2 (c1 : W.cell? ⟨k, 0, none⟩ = some v1) (c2 : W.cell? ⟨k, 1, none⟩ = some v2) (q1 : Dots W v1 l1) (q2 : Dots W v2 l2) (e1 : l1.length ≤ 100000) (e2 : l2.length ≤ 100000) => concatd_any k cp v1 v2 l1 l2 W c1 c2 q1 q2 e1 e2 (World.block_lt_of_cell? W _ c1))
  obtain ⟨x0, q0, rfl⟩ := h1.shape
  obtain ⟨x1, q1, rfl⟩ := h2.shape
  obtain ⟨x2, q2, rfl⟩ := h3.shape
  obtain ⟨x3, q3, rfl⟩ := h4.shape
  obtain ⟨d0, d1, d2, d3⟩ := hJ.cells
  obtain ⟨W1, hW1⟩ : ∃ W1, W1 = wz.alloc (.cells #[.slice x1 aC.length q1, .slice x3 bC.length q3] 30) := ⟨_, rfl⟩
  have Hp1 := hid (show Pure wz W1 from by rw [hW1]; exact (Below.refl _ _).alloc (Nat.le_refl _) _)
  have hb1 : W1.heap[wz.heap.size]? = some (.cells #[.slice x1 aC.length q1, .slice x3 bC.length q3] 30 (0, 0)) := by rw [hW1]; exact block_alloc_new _ _
  have hs1 : W1.heap.size = w.heap.size + 5 := by rw [hW1]; simp; omega
  rw [show wz.heap.size = w.heap.size + 1 + 1 + 1 + 1 by omega] at hb1
  have Hc1 := hid (hcat.out W1 _ 2 _ _ _ _ (cell_of_block hb1 0) (cell_of_block hb1 1) (hrow.out h2 _ Hp1.out) (hrow.out h4 _ Hp1.out) (by omega) (by omega))
  have Hsz := hid hsz
  have Hs1 := hid hs1
  have Hpz := hid hpz
  have Hr1 := hid h1
  have Hr3 := hid h3
  have hna := hid ha
  have hnb := hid hb
  clear hb1 hsz hs1 hpz hJ h1 h2 h3 h4 ha hb
  unfold cv
  go_enter Tryz.func142, Tryz.ntmps142
  go_wp2_with fail
  rw [← hwz, ← hW1]
  refine Hc1.out.mono ?_
  rintro e w2 ⟨v2, rfl, hown2, hp2⟩
  have Hs := hid (sort_any v2 (aC ++ bC) w2 (Row.of_own hown2) (by simp; omega))
  have Hp2 := hid (Hp1.out.then_ hp2)
  have hp2' := Hp2.out
  clear hown2 hp2 Hc1 hwz hW1
  go_wp2_with fail
  refine Hs.out.mono ?_
  rintro e w3 ⟨v3, rfl, hown3, hp3⟩
  obtain ⟨x4, q4, rfl⟩ := own_shape_d hown3
  have hp23 := Hp2.out.then_ hp3
  obtain ⟨d0, d1, d2, d3⟩ := (HJ.out w3 hp23).cells
  obtain ⟨w4, hw4⟩ : ∃ w4, w4 = w3.alloc (.cells #[.slice x4 (dsort (aC ++ bC)).length q4] 30) := ⟨_, rfl⟩
  have hp34 : Pure w3 w4 := by rw [hw4]; exact (Below.refl _ _).alloc (Nat.le_refl _) _
  have Hp4 := hid (hp23.then_ hp34)
  have Hq4 := hid (show w4.heap[w3.heap.size]? = some (.cells #[.slice x4 (dsort (aC ++ bC)).length q4] 30 (0, 0)) from by rw [hw4]; exact block_alloc_new _ _)
  have Hrq := hid (show Dots w4 (.slice x4 (dsort (aC ++ bC)).length q4) (dsort (aC ++ bC)) from Row.pure (Row.of_own hown3) hp34)
  have hdl : (dsort (aC ++ bC)).length ≤ 1000 := Nat.le_trans (dsort_len _) (by simp; omega)
  have hs23 := hp2'.size
  have Hqb := hid (fun k (hk : (Value.slice x4 (dsort (aC ++ bC)).length q4).rb = some k) => Nat.le_trans hs23 (hown3.lt k (rb_own hk)).1)
  have hs4 := Hp4.out.size
  have hs34 : w4.heap.size = w3.heap.size + 1 := by rw [hw4]; simp
  have hcn := hid (cnodes_sort (aB ++ bB) (aC ++ bC))
  have hmem := hid (fun d => (dsort_spec (aC ++ bC)).2 d)
  generalize hcle : dsort (aC ++ bC) = cl at *
  have Hcle := hid hcle
  clear hcle
  obtain ⟨W5, hW5⟩ : ∃ W5, W5 = (w4.alloc (.cells #[.slice x0 aB.length q0, .slice x2 bB.length q2] 30)).drew := ⟨_, rfl⟩
  have hp5 : Pure w4 W5 := by rw [hW5]; exact ((Below.refl _ _).alloc (Nat.le_refl _) _).drew
  have hb5 : W5.heap[w4.heap.size]? = some (.cells #[.slice x0 aB.length q0, .slice x2 bB.length q2] 30 (0, 0)) := by rw [hW5]; exact block_alloc_new w4 _
  rw [hs34] at hb5
  have Hc2 := hid (hcat.out W5 (w3.heap.size + 1) 2 _ _ _ _ (cell_of_block hb5 0) (cell_of_block hb5 1) (hrow.out Hr1.out _ (Hp4.out.then_ hp5)) (hrow.out Hr3.out _ (Hp4.out.then_ hp5)) (by omega) (by omega))
  rw [List.length_append] at Hc2
  have hS : Hid (∀ W, Pure w4 W → (W.cell? ⟨w.heap.size, 0, none⟩ = some (.slice x0 aB.length q0) ∧ W.cell? ⟨w.heap.size + 1, 0, none⟩ = some (.slice x2 bB.length q2) ∧ W.cell? ⟨w3.heap.size, 0, none⟩ = some (.slice x4 cl.length q4) ∧ Pure w4 W)) := fun W hW => by
    obtain ⟨c0, _, c2, _⟩ := (HJ.out W (Hp4.out.then_ hW)).cells
    exact ⟨c0, c2, cell_of_block ((hW.block _ (lt_of_block Hq4.out)).trans Hq4.out) 0, hW⟩
  have hst := hid (hS.out w4.drew (Below.refl _ _).drew)
  have hst5 := hid (hS.out W5 hp5)
  have hS2 : Hid (∀ W : World, (W.cell? ⟨w.heap.size, 0, none⟩ = some (.slice x0 aB.length q0) ∧ W.cell? ⟨w.heap.size + 1, 0, none⟩ = some (.slice x2 bB.length q2) ∧ W.cell? ⟨w3.heap.size, 0, none⟩ = some (.slice x4 cl.length q4) ∧ Pure w4 W) → Pure w4 W) := fun W h => h.2.2.2
  have hwfa : Hid (∀ d ∈ (aB ++ bB) ++ cl, (Lit.int .i64 d.1).wf = true) := fun d hd => by
    rcases List.mem_append.1 hd with hd | hd
    · rcases List.mem_append.1 hd with hd | hd
      · exact hna.out.wb d hd
      · exact hnb.out.wb d hd
    · rcases List.mem_append.1 ((hmem.out d).1 hd) with hd | hd
      · exact hna.out.wc d hd
      · exact hnb.out.wc d hd
  have hnd := hid (fun W v base (hv : W.ownsRow base 28 2 v (aB.length + bB.length) (dvs (aB ++ bB))) (hW : Pure w4 W) => nodes_any v (.slice x4 cl.length q4) (aB ++ bB) cl W (Row.of_own (by rw [List.length_append]; exact hv)) (Row.pure Hrq.out hW) (by simp; omega) (by omega) hwfa.out)
  have HW5 := hid hW5.symm
  have HP5 := hid hp5
  clear hW5
  unfold NdP cv at hnd
  rw [hcn.out] at hnd
  clear hown3 hp3 Hs hb5 hp5 hwfa hp2' hs23 hcat
  go_wp2_with fail
  rw [← hw4]
  clear hw4 d0 d1 d2 d3
  go_region_held3 (fun W => W.cell? ⟨w.heap.size, 0, none⟩ = some (.slice x0 aB.length q0) ∧ W.cell? ⟨w.heap.size + 1, 0, none⟩ = some (.slice x2 bB.length q2) ∧ W.cell? ⟨w3.heap.size, 0, none⟩ = some (.slice x4 cl.length q4) ∧ Pure w4 W)
    (first | assumption | with_reducible exact hst.out | with_reducible exact hS.out _ (Pure.then_ (hS2.out _ (by assumption)) (by assumption)) | (rw [HW5.out]; with_reducible exact hst5.out) | with_reducible exact hS.out _ (Pure.then_ HP5.out (by assumption)))
    ((first
      | (go_at_call 180; rw [HW5.out]; (with_reducible refine Hc2.out.mono ?_); rintro e w6 ⟨v6, rfl, hd6, hp6⟩; obtain ⟨x6, q6, rfl⟩ := own_shape_d hd6)
      | (go_at_call 185; (with_reducible refine (hnd.out _ _ _ hd6 (hS2.out _ (by assumption))).mono ?_); rintro e w7 ⟨v7, rfl, hd7, hp7⟩; obtain ⟨x7, q7, rfl⟩ := own_shape_d hd7)))
  have hp7w : Pure w4 w7 := hS2.out w7 (by assumption)
  have Hput := hid (PutW.mk (na := w.heap.size) (nb := w.heap.size + 1) (nq := w3.heap.size) (o := w.heap.size + 3) (w6 := w7) (HJ.out w7 (Hp4.out.then_ hp7w)).a (HJ.out w7 (Hp4.out.then_ hp7w)).b ((hp7w.block _ (lt_of_block Hq4.out)).trans Hq4.out)
    (by omega) (by omega) (by have := Hsz.out; have := hp23.size; omega) (lt_of_block (HJ.out w7 (Hp4.out.then_ hp7w)).o) (hrow.out Hr1.out _ (Hp4.out.then_ hp7w)) (hrow.out Hr3.out _ (Hp4.out.then_ hp7w)) (Row.pure Hrq.out hp7w)
    (fun k hk e => by have := Row.lt Hr1.out k hk; omega) (fun k hk e => by have := Row.lt Hr3.out k hk; omega) (fun k hk e => by have := Hqb.out k hk; have := Hsz.out; omega)
    hna.out.sb hnb.out.sb hna.out.bb hnb.out.bb (fun d hd => by rcases List.mem_append.1 ((hmem.out d).1 hd) with hd | hd; exact hna.out.bc d hd; exact hnb.out.bc d hd) (by omega) (by omega) hdl)
  have Hout := hid (HJ.out w7 (Hp4.out.then_ hp7w))
  have Hp7 := hid (Hpz.out.then_ (Hp4.out.then_ hp7w))
  have Hs7 := hid (show w.heap.size + 4 ≤ w7.heap.size from by have := (Hp4.out.then_ hp7w).size; have := Hsz.out; omega)
  have hrn := hid (show Ints w7 (.slice x7 (cnodes (aB ++ bB) (aC ++ bC)).length q7) (cnodes (aB ++ bB) (aC ++ bC)) from Row.of_own hd7)
  have hrb := hid (fun k (hk : (Value.slice x7 (cnodes (aB ++ bB) (aC ++ bC)).length q7).rb = some k) => (show w.heap.size + 4 ≤ k from by have := (hd7.lt k (rb_own hk)).1; have := hp6.size; have := HP5.out.size; have := Hp4.out.size; have := Hsz.out; omega))
  have hnl := cnodes_len (aB ++ bB) (aC ++ bC)
  simp only [List.length_append] at hnl
  have hbd := hid (jfold_bd aB bB (aC ++ bC) (fun node u => cof_len node u (aC ++ bC) (by simp; omega)) (cnodes (aB ++ bB) (aC ++ bC)))
  have hcj := hid (show cjoin aB aC bB bC = (cnodes (aB ++ bB) (aC ++ bC)).foldl (jstep aB bB (aC ++ bC)) ([], []) from rfl)
  have hjs := hid (show jput aB bB cl = jstep aB bB (aC ++ bC) from by rw [← Hcle.out]; exact jput_step _ _ _)
  have hstep := hid (fun k (hk : k < (cnodes (aB ++ bB) (aC ++ bC)).length) => (show ((cnodes (aB ++ bB) (aC ++ bC)).take (k + 1)).foldl (jstep aB bB (aC ++ bC)) ([], []) = jput aB bB cl (((cnodes (aB ++ bB) (aC ++ bC)).take k).foldl (jstep aB bB (aC ++ bC)) ([], [])) ((cnodes (aB ++ bB) (aC ++ bC)).getD k 0) from by rw [take_succ_get _ k hk, hjs.out]; simp))
  clear hst hst5 hS hS2 hnd Hc2 HJ Hq4 Hrq Hqb hd6 hp6 hd7 hp7 hp7w hp23 hp34 Hp4 hs4 hs34 hrow hcn hmem HW5 HP5
  generalize cnodes (aB ++ bB) (aC ++ bC) = N at *
  go_wp2
  go_loopw [28] (fun i wr => ∃ (k : Nat) (y0 y1 : Value), k ≤ N.length ∧ i = .int .i64 k ∧ JL (w.heap.size + 3) w7 y0 y1 ((N.take k).foldl (jstep aB bB (aC ++ bC)) ([], [])).1 ((N.take k).foldl (jstep aB bB (aC ++ bC)) ([], [])).2 wr) (fun i _ => N.length - (RowKit.intOf i).toNat)
  case atStart => exact ⟨0, _, _, Nat.zero_le _, rfl, Hout.out.o, World.ownsRow_nil _ _ _ _, World.ownsRow_nil _ _ _ _, fun g hg => by simp [Value.ownBlock] at hg, Kept.refl _ _⟩
  case round =>
    obtain ⟨k, y0, y1, hk, rfl, hL⟩ := hrel
    by_cases hlt : k < N.length
    · obtain ⟨bn, on, rfl, hbn, hx⟩ := ints_get_j (show Ints wr (.slice x7 N.length q7) N from Row.kept hrn.out hL.k (fun j hj e => by have := hrb.out j hj; omega)) hlt
      have hlt' : (k : Int) < (N.length : Int) := by omega
      obtain ⟨l0, l1⟩ := hbd.out k hk
      have Hstep := hid (hstep.out k hlt)
      have hl1' : k * 1000 ≤ 999000 := by omega
      generalize (N.take k).foldl (jstep aB bB (aC ++ bC)) ([], []) = L at *
      obtain ⟨L0, L1⟩ := L
      dsimp only at hL l0 l1
      generalize N.getD k 0 = x at *
      have Hc := hid (put_any w.heap.size (w.heap.size + 1) w3.heap.size (w.heap.size + 3) _ _ _ _ _ aB bB cl w7 wr Hput.out x y0 y1 L0 L1 hL (by omega) (by omega))
      clear hL hbn
      go_wp2_with fail
      refine Hc.out.mono ?_
      rintro e w9 ⟨rfl, y2, y3, hL9⟩
      have HL9 := hid hL9
      clear hL9
      go_wp2
      go_roundw
      case rel => exact ⟨k + 1, y2, y3, by omega, by go_num, by rw [Hstep.out]; exact HL9.out⟩
      case measure => simp [RowKit.intOf]; omega
    · have hlt' : ¬ (k : Int) < (N.length : Int) := by omega
      rw [List.take_of_length_le (by omega)] at hL
      clear hbd hstep
      generalize N.foldl (jstep aB bB (aC ++ bC)) ([], []) = L at *
      obtain ⟨L0, L1⟩ := L
      dsimp only at hL
      obtain ⟨o0, o1, _, _⟩ := hL.cells
      have hr : wr.heap[w.heap.size + 2]? = some (.cells #[.slice none 0 0, .slice none 0 0] 32 (0, 0)) := (hL.k.block _ (lt_of_block Hout.out.r) (by omega)).trans Hout.out.r
      have r0 := cell_of_block hr 0
      have r1 := cell_of_block hr 1
      have r2 := free_of_block hr 0
      have r3 := free_of_block hr 1
      obtain ⟨p0, k0, rfl⟩ := own_shape_d hL.r0
      obtain ⟨p1, k1, rfl⟩ := own_shape_d hL.r1
      have hpw : Pure w wr := by
        have h2 : Kept (fun j => w.heap.size ≤ j) w wr := Hp7.out.kept.trans (hL.k.mono (fun j _ e => by omega))
        exact h2.below (Nat.le_refl _) (fun j hj e => by omega)
      obtain ⟨t0, t1, hfin⟩ := ctx_ret (w := w) (B := L0) (C := L1) hr (by omega) hpw (Row.of_own hL.r0) (Row.of_own hL.r1) (fun j hj => by have := (hL.r0.lt j (rb_own hj)).1; have := Hs7.out; omega) (fun j hj => by have := (hL.r1.lt j (rb_own hj)).1; have := Hs7.out; omega)
      have T0 := hid t0
      have T1 := hid t1
      have Hfin := hid hfin
      clear t0 t1 hfin hL hr hpw
      go_wp2
      exact bodyPost_ret (v := .agg #[.slice p0 L0.length k0, .slice p1 L1.length k1]) (by simp [results, Tryz.results142, go_sem, T0.out, T1.out]) rfl (by rw [hcj.out]; exact Hfin.out)
end Go.Proofs.YtdlpnhfgjficgaaGreat

namespace Go.Proofs.YtdlpnhfgjficgaaGreat
open Go.RowKit Go.Maps Go.Shelf Go.Sort

end Go.Proofs.YtdlpnhfgjficgaaGreat

namespace Go.Proofs.YtdlpnhfgjficgaaGreat
open Go.RowKit Go.Maps Go.Shelf Go.Sort

end Go.Proofs.YtdlpnhfgjficgaaGreat

namespace Go.Proofs.YtdlpnhfgjficgaaGreat
open Go.RowKit Go.Maps Go.Shelf Go.Sort

theorem RsC.grown {s : Nat} {W W' : World} {r : Option Nat} (h : Hid (RsC s W)) (hg : W.grownBy W' r) (hr : r ≠ some s) : Hid (RsC s W') ∧ W'.cell? ⟨s, 0, none⟩ = some (.slice none 0 0) ∧ W'.cell? ⟨s, 1, none⟩ = some (.slice none 0 0) ∧ W'.frozen? ⟨s, 0, none⟩ = false ∧ W'.frozen? ⟨s, 1, none⟩ = false := by
  have e : RsC s W' := (hg.block _ (lt_of_block h.out) (fun e => hr e.symm)).trans h.out
  exact ⟨e, cell_of_block e 0, cell_of_block e 1, free_of_block e 0, free_of_block e 1⟩
theorem wf_dok {d : Dot} (h : dok d) : (Lit.int .i64 d.1).wf = true := wf_i64 _ (by obtain ⟨h1, h2, _⟩ := h; omega)

end Go.Proofs.YtdlpnhfgjficgaaGreat

namespace Go.Proofs.YtdlpnhfgjficgaaGreat
open Go.RowKit Go.Maps Go.Shelf Go.Sort

end Go.Proofs.YtdlpnhfgjficgaaGreat

