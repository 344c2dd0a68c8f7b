/- ref04's Join and Covers, of larger contexts. -/
import Derived.Test.YtdlpnhfgjficgaaGreatMQa
namespace Go.Proofs.YtdlpnhfgjficgaaGreat
open Go.RowKit Go.Maps

theorem flat_filter_len : ∀ (N : List Int) (l : List Dot), N.Pairwise (· < ·) → (N.flatMap fun x => l.filter fun d => d.1 == x).length ≤ l.length
  | [], l, _ => by simp
  | x :: N, l, h => by
    rw [List.pairwise_cons] at h
    have ih := flat_filter_len N (l.filter fun d => !(d.1 == x)) h.2
    have e : (N.flatMap fun y => l.filter fun d => d.1 == y) = (N.flatMap fun y => (l.filter fun d => !(d.1 == x)).filter fun d => d.1 == y) := by
      have e2 : ∀ y ∈ N, (l.filter fun d => d.1 == y) = ((l.filter fun d => !(d.1 == x)).filter fun d => d.1 == y) := fun y hy => by
        rw [List.filter_filter]
        apply List.filter_congr
        intro d _
        have := h.1 y hy
        by_cases hd : d.1 = y
        · have : ¬ d.1 = x := by omega
          simp [hd]; omega
        · simp [hd]
      clear ih
      rw [List.flatMap_def, List.flatMap_def]
      congr 1
      exact List.map_congr_left e2
    rw [List.flatMap_cons, List.length_append, e]
    have hc : (l.filter fun d => d.1 == x).length + (l.filter fun d => !(d.1 == x)).length = l.length := by
      clear ih e
      induction l with
      | nil => rfl
      | cons a r ihr => by_cases ha : a.1 = x <;> simp [ha] <;> omega
    omega
theorem jo_len (aB bB cl : List Dot) (x : Int) : (jo aB bB cl x).length ≤ ((dsort cl).filter fun d => d.1 == x).length := by
  have h2 := (cfold_bd (max (cbase aB x) (cbase bB x)) ((dsort cl).filter fun d => d.1 == x) _ (Nat.le_refl _)).2.2
  rw [List.take_length] at h2
  exact h2
theorem flat_le (aB bB cl : List Dot) : ∀ N : List Int, (N.flatMap (jo aB bB cl)).length ≤ (N.flatMap fun x => (dsort cl).filter fun d => d.1 == x).length
  | [] => by simp
  | x :: N => by
    have := flat_le aB bB cl N
    have := jo_len aB bB cl x
    simp only [List.flatMap_cons, List.length_append]; omega
theorem jfoldL_bd (aB bB cl : List Dot) (N : List Int) (hN : N.Pairwise (· < ·)) (k : Nat) : ((N.take k).foldl (jstep aB bB cl) ([], [])).1.length ≤ k ∧ ((N.take k).foldl (jstep aB bB cl) ([], [])).2.length ≤ cl.length := by
  rw [jfold_eq]
  constructor
  · have e : ∀ M : List Int, (M.flatMap (fun x => if 0 < jk aB bB cl x then [(x, jk aB bB cl x)] else [])).length ≤ M.length := fun M => by
      induction M with
      | nil => simp
      | cons x M ih =>
        have h1 : (if 0 < jk aB bB cl x then [(x, jk aB bB cl x)] else ([] : List Dot)).length ≤ 1 := by split <;> simp
        rw [List.flatMap_cons, List.length_append, List.length_cons]; omega
    have := e (N.take k)
    have := List.length_take_le k N
    simp only [List.nil_append]; omega
  · have h1 := flat_le aB bB cl (N.take k)
    have h2 := flat_filter_len (N.take k) (dsort cl) (hN.sublist (List.take_sublist _ _))
    have h3 := dsort_len cl
    simp only [List.nil_append]; omega
theorem cofL_len (node u : Int) (cl : List Dot) (h : cl.length ≤ 3000) : (cof node u cl).2.length ≤ 3000 := by
  have h1 := dsort_len cl
  have h2 := (cfold_bd u ((dsort cl).filter fun d => d.1 == node) _ (Nat.le_refl _)).2.2
  rw [List.take_length] at h2
  have h3 : ((dsort cl).filter fun d => d.1 == node).length ≤ (dsort cl).length := List.length_filter_le _ _
  unfold cof
  omega
set_option maxRecDepth 8000 in
set_option maxHeartbeats 8000000 in
theorem rjoinL_any (va0 va1 vb0 vb1 : Value) (aB aC bB bC : List Dot) (w : World) (h1 : Dots w va0 aB) (h2 : Dots w va1 aC) (h3 : Dots w vb0 bB) (h4 : Dots w vb1 bC) (hl : aB.length + aC.length + bB.length + bC.length ≤ 3000) (hb1 : ∀ d ∈ aB, 0 ≤ d.2 ∧ d.2 ≤ 1152921504606846976) (hb2 : ∀ d ∈ bB, 0 ≤ d.2 ∧ d.2 ≤ 1152921504606846976) :
    Calls Tryz.prog 50 #[.agg #[va0, va1], .agg #[vb0, vb1]] w fun r w' => ∃ v0 v1, r = .returned (.agg #[v0, v1]) ∧ Dots w' v0 (cjoin aB aC bB bC).1 ∧ Dots w' v1 (cjoin aB aC bB bC).2 ∧ Pure w w' ∧ (∀ k, v0.rb = some k → w.heap.size ≤ k) ∧ (∀ k, v1.rb = some k → w.heap.size ≤ k) := by
  have lt1 := Row.lt h1
  have lt2 := Row.lt h2
  have lt3 := Row.lt h3
  have lt4 := Row.lt h4
  obtain ⟨i0, hi, hz0, hz1, hz2⟩ := info_parts infoDot
  have Hb1 := hid hb1
  have Hb2 := hid hb2
  clear hb1 hb2
  obtain ⟨a0, c0, rfl⟩ := h1.shape
  obtain ⟨a1, c1, rfl⟩ := h2.shape
  obtain ⟨a2, c2, rfl⟩ := h3.shape
  obtain ⟨a3, c3, rfl⟩ := h4.shape
  obtain ⟨wz, hwz⟩ : ∃ wz, wz = (((w.alloc (.cells #[.slice a0 aB.length c0, .slice a1 aC.length c1] 32)).alloc (.cells #[.slice a2 bB.length c2, .slice a3 bC.length c3] 32)).alloc (.cells #[.slice none 0 0, .slice none 0 0] 32)).alloc (.cells #[.slice none 0 0, .slice none 0 0] 32) := ⟨_, rfl⟩
  have Hwz := hid (show Pure w wz from by rw [hwz]; exact ((((Below.refl _ _).alloc (Nat.le_refl _) _).alloc (by simp) _).alloc (by simp; omega) _).alloc (by simp; omega) _)
  have hszz : wz.heap.size = w.heap.size + 4 := by rw [hwz]; simp
  have hJ : JB w.heap.size (.slice a0 aB.length c0) (.slice a1 aC.length c1) (.slice a2 bB.length c2) (.slice a3 bC.length c3) (.slice none 0 0) (.slice none 0 0) wz wz := by
    refine ⟨?_, ?_, ?_, Kept.refl _ _, hszz⟩
    · rw [hwz]; exact block_alloc_old (block_alloc_old (block_alloc_old (block_alloc_new _ _) _) _) _
    · rw [hwz]; have := block_alloc_new (w.alloc (.cells #[.slice a0 aB.length c0, .slice a1 aC.length c1] 32)) (.cells #[.slice a2 bB.length c2, .slice a3 bC.length c3] 32)
      rw [World.size_alloc] at this
      exact block_alloc_old (block_alloc_old this _) _
    · rw [hwz]; have := block_alloc_new (((w.alloc (.cells #[.slice a0 aB.length c0, .slice a1 aC.length c1] 32)).alloc (.cells #[.slice a2 bB.length c2, .slice a3 bC.length c3] 32)).alloc (.cells #[.slice none 0 0, .slice none 0 0] 32)) (.cells #[.slice none 0 0, .slice none 0 0] 32)
      simpa using this
  have R1 := hid (fun W x0 x1 (h : JB w.heap.size (.slice a0 aB.length c0) (.slice a1 aC.length c1) (.slice a2 bB.length c2) (.slice a3 bC.length c3) x0 x1 wz W) => (show Dots W (.slice a0 aB.length c0) aB from h.row (Row.pure h1 Hwz.out) lt1))
  have R2 := hid (fun W x0 x1 (h : JB w.heap.size (.slice a0 aB.length c0) (.slice a1 aC.length c1) (.slice a2 bB.length c2) (.slice a3 bC.length c3) x0 x1 wz W) => (show Dots W (.slice a1 aC.length c1) aC from h.row (Row.pure h2 Hwz.out) lt2))
  have R3 := hid (fun W x0 x1 (h : JB w.heap.size (.slice a0 aB.length c0) (.slice a1 aC.length c1) (.slice a2 bB.length c2) (.slice a3 bC.length c3) x0 x1 wz W) => (show Dots W (.slice a2 bB.length c2) bB from h.row (Row.pure h3 Hwz.out) lt3))
  have R4 := hid (fun W x0 x1 (h : JB w.heap.size (.slice a0 aB.length c0) (.slice a1 aC.length c1) (.slice a2 bB.length c2) (.slice a3 bC.length c3) x0 x1 wz W) => (show Dots W (.slice a3 bC.length c3) bC from h.row (Row.pure h4 Hwz.out) lt4))
  have HJ := hid hJ
  have hres : Hid (wz.heap[w.heap.size + 2]? = some (.cells #[.slice none 0 0, .slice none 0 0] 32 (0, 0))) := by
    show wz.heap[w.heap.size + 2]? = _
    rw [hwz]
    have := block_alloc_new ((w.alloc (.cells #[.slice a0 aB.length c0, .slice a1 aC.length c1] 32)).alloc (.cells #[.slice a2 bB.length c2, .slice a3 bC.length c3] 32)) (.cells #[.slice none 0 0, .slice none 0 0] 32)
    rw [World.size_alloc, World.size_alloc] at this
    exact block_alloc_old this _
  clear h1 h2 h3 h4 hJ lt1 lt2 lt3 lt4
  go_enter Tryz.func50, Tryz.ntmps50
  have e0 : ∀ (W : World) (x0 x1 : Value), JB w.heap.size (.slice a0 aB.length c0) (.slice a1 aC.length c1) (.slice a2 bB.length c2) (.slice a3 bC.length c3) x0 x1 wz W → True := fun _ _ _ _ => trivial
  clear e0
  go_wp2_with (at_builtin; refine wpList_append_dots rfl _ _ rfl (w.heap.size + 4) (.slice none 0 0) [] 0 rfl (World.ownsRow_nil _ _ _ _) _ aB aB.length rfl (by rw [← hwz]; exact R1.out _ _ _ HJ.out) (by omega) (by rw [← hwz]; omega) ?_)
  rw [← hwz]
  intro v1 w1 hown1 hg1
  have J1 := HJ.out.grown hg1 (fun k hk => by simp [Value.ownBlock] at hk)
  have hown1' : w1.ownsRow (w.heap.size + 4) 28 2 v1 aB.length (dvs aB) := by simpa using hown1
  obtain ⟨x1, y1, rfl⟩ := own_shape_d hown1'
  have Hown1 := hid hown1'
  have HJ1 := hid J1
  obtain ⟨f1, f2, f3, f4, f5, f6, f7, f8⟩ := J1.cells
  have hz1 : w.heap.size + 4 ≤ w1.heap.size := by have := J1.k.size; omega
  clear hown1 hown1' hg1 J1 hwz
  go_wp2_with (at_builtin; refine wpList_append_dots rfl _ _ rfl (w.heap.size + 4) _ aB aB.length rfl (own_setCell Hown1.out _ (by show w.heap.size + 3 < w.heap.size + 4; omega) _) _ bB bB.length rfl (R3.out _ _ _ (HJ1.out.set0 _)) (by omega) (by simpa using hz1) ?_)
  intro v2 w2 hown2 hg2
  have J2 := (HJ1.out.set0 (.slice x1 aB.length y1)).grown hg2 (fun k hk => (Hown1.out.lt k hk).1)
  obtain ⟨x2, y2, rfl⟩ := own_shape_d hown2
  have Hown2 := hid hown2
  have HJ2 := hid J2
  clear f1 f2 f3 f4 f5 f6 f7 f8
  obtain ⟨f1, f2, f3, f4, f5, f6, f7, f8⟩ := J2.cells
  have hz2 : w.heap.size + 4 ≤ w2.heap.size := by have := J2.k.size; omega
  clear hown2 hg2 J2 hz1
  go_wp2_with (at_builtin; refine wpList_append_dots rfl _ _ rfl w2.heap.size (.slice none 0 0) [] 0 rfl (World.ownsRow_nil _ _ _ _) _ aC aC.length rfl (R2.out _ _ _ (HJ2.out.set0 _)) (by omega) (by simp) ?_)
  intro v3 w3 hown3 hg3
  have J3 := (HJ2.out.set0 (.slice x2 (aB.length + bB.length) y2)).grown hg3 (fun k hk => by simp [Value.ownBlock] at hk)
  have Hown2' := hid (show w3.ownsRow (w.heap.size + 4) 28 2 (.slice x2 (aB.length + bB.length) y2) (aB.length + bB.length) (dvs (aB ++ bB)) from own_kept_none (own_setCell Hown2.out ⟨w.heap.size + 3, 0, none⟩ (by show w.heap.size + 3 < w.heap.size + 4; omega) _) hg3)
  have hown3' : w3.ownsRow w2.heap.size 28 2 v3 aC.length (dvs aC) := by simpa using hown3
  obtain ⟨x3, y3, rfl⟩ := own_shape_d hown3'
  have Hown3 := hid hown3'
  have HJ3 := hid J3
  clear f1 f2 f3 f4 f5 f6 f7 f8
  obtain ⟨f1, f2, f3, f4, f5, f6, f7, f8⟩ := J3.cells
  have hz3 : w2.heap.size ≤ w3.heap.size := by have := hg3.size; simpa using this
  clear hown3 hown3' hg3 J3
  go_wp2_with (at_builtin; refine wpList_append_dots rfl _ _ rfl w2.heap.size _ aC aC.length rfl (own_setCell Hown3.out _ (by show w.heap.size + 3 < w2.heap.size; omega) _) _ bC bC.length rfl (R4.out _ _ _ (HJ3.out.set1 _)) (by omega) (by simpa using hz3) ?_)
  intro v4 w4 hown4 hg4
  have J4 := (HJ3.out.set1 (.slice x3 aC.length y3)).grown hg4 (fun k hk => by have := (Hown3.out.lt k hk).1; omega)
  have Hown2'' := hid (show w4.ownsRow (w.heap.size + 4) 28 2 (.slice x2 (aB.length + bB.length) y2) (aB.length + bB.length) (dvs (aB ++ bB)) from
    (own_setCell Hown2'.out ⟨w.heap.size + 3, 1, none⟩ (by show w.heap.size + 3 < w.heap.size + 4; omega) (.slice x3 aC.length y3)).kept hg4 (own_apart Hown2.out Hown3.out))
  obtain ⟨x4, y4, rfl⟩ := own_shape_d hown4
  have Hown4 := hid hown4
  have HJ4 := hid (J4.set1 (.slice x4 (aC.length + bC.length) y4))
  have hlt2 := hid (fun k (hk : Value.rb (.slice x2 (aB.length + bB.length) y2) = some k) => (Hown2''.out.lt k (rb_own hk)).2)
  have hlt4 := hid (fun k (hk : Value.rb (.slice x4 (aC.length + bC.length) y4) = some k) => (hown4.lt k (rb_own hk)).2)
  clear f1 f2 f3 f4 f5 f6 f7 f8
  obtain ⟨f1, f2, f3, f4, f5, f6, f7, f8⟩ := J4.cells
  have hz4 : w.heap.size + 4 ≤ w4.heap.size := by have := J4.k.size; omega
  clear hown4 hg4 J4 hz3 hz2
  have f5' : w4.cell? ⟨w.heap.size + 1 + 1 + 1, 0, none⟩ = some (.slice x2 (aB.length + bB.length) y2) := f5
  have hz4' : w.heap.size + 1 + 1 + 1 < w4.heap.size := by omega
  clear f5
  obtain ⟨w5, hw5⟩ : ∃ w5, w5 = ((w4.setCell ⟨w.heap.size + 1 + 1 + 1, 1, none⟩ (.slice x4 (aC.length + bC.length) y4)).alloc (.cells #[.slice none 0 0, .slice none 0 0] 32)) := ⟨_, rfl⟩
  have hp45 : Pure (w4.setCell ⟨w.heap.size + 3, 1, none⟩ (.slice x4 (aC.length + bC.length) y4)) w5 := by rw [hw5]; exact (Below.refl _ _).alloc (Nat.le_refl _) _
  have HJ5 := hid (HJ4.out.pure hp45)
  have hk45 : Kept (fun k => k = w.heap.size + 3) w4 w5 := by rw [hw5]; exact (kept_set w4 (w.heap.size + 3) 1 (.slice x4 (aC.length + bC.length) y4)).alloc _
  have HX := hid (show Dots w5 (.slice x2 (aB.length + bB.length) y2) (aB ++ bB) from by
    have h := (Row.of_own Hown2''.out).kept hk45 (fun k hk e => by have := (Hown2''.out.lt k (rb_own hk)).1; omega)
    unfold Dots; rw [List.length_append]; exact h)
  have HY := hid (show Dots w5 (.slice x4 (aC.length + bC.length) y4) (aC ++ bC) from by
    have h := (Row.of_own Hown4.out).kept hk45 (fun k hk e => by have := (Hown4.out.lt k (rb_own hk)).1; have := HJ2.out.k.size; omega)
    unfold Dots; rw [List.length_append]; exact h)
  have hout5 : w5.heap[w4.heap.size]? = some (.cells #[.slice none 0 0, .slice none 0 0] 32 (0, 0)) := by
    rw [hw5]; have := block_alloc_new (w4.setCell ⟨w.heap.size + 1 + 1 + 1, 1, none⟩ (.slice x4 (aC.length + bC.length) y4)) (.cells #[.slice none 0 0, .slice none 0 0] 32); simpa using this
  have hs5 : w5.heap.size = w4.heap.size + 1 := by rw [hw5]; simp
  have Hout5 := hid hout5
  clear hout5 hk45 hp45
  go_wp2_with fail
  rw [← hw5]
  clear hw5
  refine (rnodes_any _ _ (aB ++ bB) (aC ++ bC) w5 HX.out HY.out (by simp; omega)).mono ?_
  rintro e w6 ⟨v6, rfl, hi6, hp6, hrb6⟩
  clear f1 f2 f3 f4 f6 f7 f8 f5'
  obtain ⟨N, hN⟩ : ∃ N, N = cnodes (aB ++ bB) (aC ++ bC) := ⟨_, rfl⟩
  rw [← hN] at hi6
  have HN := hid hN
  obtain ⟨a6, c6, rfl⟩ := hi6.shape
  have HJ6 := hid (HJ5.out.pure hp6)
  have hoz : w.heap.size + 4 ≤ w4.heap.size := hz4
  have HR6 : Hid (∀ W, Kept (fun k => k = w4.heap.size) w6 W → W.heap[w.heap.size + 2]? = some (.cells #[.slice none 0 0, .slice none 0 0] 32 (0, 0))) := fun W hW => by
    have h1 := hres.out
    have h2 := (HJ6.out.k.block (w.heap.size + 2) (by omega) (by omega)).trans h1
    exact (hW.block (w.heap.size + 2) (lt_of_block h2) (by omega)).trans h2
  have HL6 := hid (show JL w4.heap.size w6 (.slice none 0 0) (.slice none 0 0) [] [] w6 from ⟨(hp6.block _ (by omega)).trans Hout5.out, World.ownsRow_nil _ _ _ _, World.ownsRow_nil _ _ _ _, fun g h => by simp [Value.ownBlock] at h, Kept.refl _ _⟩)
  have HF : Hid (∀ W, Kept (fun k => k = w4.heap.size) w6 W → JB w.heap.size (.slice a0 aB.length c0) (.slice a1 aC.length c1) (.slice a2 bB.length c2) (.slice a3 bC.length c3) (.slice x2 (aB.length + bB.length) y2) (.slice x4 (aC.length + bC.length) y4) wz W ∧ Dots W (.slice x4 (aC.length + bC.length) y4) (aC ++ bC) ∧ Ints W (.slice a6 N.length c6) N) := fun W hW => by
    have hj := HJ6.out
    refine ⟨⟨(hW.block _ (lt_of_block hj.a) (by omega)).trans hj.a, (hW.block _ (lt_of_block hj.b) (by omega)).trans hj.b, (hW.block _ (lt_of_block hj.both) (by omega)).trans hj.both, ?_, hj.s4⟩, ?_, ?_⟩
    · exact hj.k.then_ hW (fun i hi e => by have := hj.s4; omega)
    · exact (Row.pure HY.out hp6).kept hW (fun k hk e => by have := hlt4.out k hk; omega)
    · exact hi6.kept hW (fun k hk e => by have := hrb6 k hk; omega)
  clear hi6 hp6 hrb6 hN
  go_wp2
  go_loopw [8] (fun i wr => ∃ (k : Nat) (y0 y1 : Value), k ≤ N.length ∧ i = .int .i64 k ∧ JL w4.heap.size w6 y0 y1 ((N.take k).foldl (jstep aB bB (aC ++ bC)) ([], [])).1 ((N.take k).foldl (jstep aB bB (aC ++ bC)) ([], [])).2 wr) (fun i _ => N.length - (RowKit.intOf i).toNat)
  case atStart => exact ⟨0, _, _, Nat.zero_le _, rfl, HL6.out⟩
  case round =>
    obtain ⟨k, y0, y1, hk, rfl, hL⟩ := hrel
    by_cases hlt : k < N.length
    · obtain ⟨bn, on, rfl, hbn, cn⟩ := ints_get_j (HF.out wr hL.k).2.2 hlt
      have hlt' : (k : Int) < (N.length : Int) := by omega
      have hcn := hid (fun W (hW : Kept (fun k => k = w4.heap.size) w6 W) => by
        obtain ⟨b', o', e, _, c⟩ := ints_get_j (HF.out W hW).2.2 hlt
        cases e
        exact (show W.cell? ⟨bn, on + k, none⟩ = some (.int .i64 (N.getD k 0)) from c))
      have Hstep := hid (show (N.take (k + 1)).foldl (jstep aB bB (aC ++ bC)) ([], []) = jstep aB bB (aC ++ bC) ((N.take k).foldl (jstep aB bB (aC ++ bC)) ([], [])) (N.getD k 0) by rw [take_succ_get N k hlt]; simp)
      have hLb := jfoldL_bd aB bB (aC ++ bC) N (by rw [HN.out]; exact (cnodes_spec _ _).1) k
      have hNl : N.length ≤ 3000 := by rw [HN.out]; have := cnodes_len (aB ++ bB) (aC ++ bC); simp at this; omega
      generalize (N.take k).foldl (jstep aB bB (aC ++ bC)) ([], []) = L at *
      obtain ⟨L0, L1⟩ := L
      dsimp only at hL hLb
      obtain ⟨hLb0, hLb1⟩ := hLb
      rw [List.length_append] at hLb1
      generalize N.getD k 0 = x at *
      have hS : Hid (∀ W, JL w4.heap.size w6 y0 y1 L0 L1 W → (W.cell? ⟨w.heap.size, 0, none⟩ = some (.slice a0 aB.length c0) ∧ W.cell? ⟨w.heap.size, 1, none⟩ = some (.slice a1 aC.length c1) ∧ W.cell? ⟨w.heap.size + 1, 0, none⟩ = some (.slice a2 bB.length c2) ∧ W.cell? ⟨w.heap.size + 1, 1, none⟩ = some (.slice a3 bC.length c3) ∧ W.cell? ⟨w.heap.size + 1 + 1 + 1, 1, none⟩ = some (.slice x4 (aC.length + bC.length) y4) ∧ W.cell? ⟨bn, on + k, none⟩ = some (.int .i64 x) ∧ JL w4.heap.size w6 y0 y1 L0 L1 W)) := fun W hW => by
        have hc := (HF.out W hW.k).1.cells
        exact ⟨hc.1, hc.2.1, hc.2.2.1, hc.2.2.2.1, hc.2.2.2.2.2.1, hcn.out W hW.k, hW⟩
      have hS2 : Hid (∀ W, (W.cell? ⟨w.heap.size, 0, none⟩ = some (.slice a0 aB.length c0) ∧ W.cell? ⟨w.heap.size, 1, none⟩ = some (.slice a1 aC.length c1) ∧ W.cell? ⟨w.heap.size + 1, 0, none⟩ = some (.slice a2 bB.length c2) ∧ W.cell? ⟨w.heap.size + 1, 1, none⟩ = some (.slice a3 bC.length c3) ∧ W.cell? ⟨w.heap.size + 1 + 1 + 1, 1, none⟩ = some (.slice x4 (aC.length + bC.length) y4) ∧ W.cell? ⟨bn, on + k, none⟩ = some (.int .i64 x) ∧ JL w4.heap.size w6 y0 y1 L0 L1 W) → JL w4.heap.size w6 y0 y1 L0 L1 W) := fun W h => h.2.2.2.2.2.2
      have hba := hid (fun W (hW : JL w4.heap.size w6 y0 y1 L0 L1 W) => rbase_any _ (.slice a1 aC.length c1) aB x W (R1.out _ _ _ (HF.out W hW.k).1))
      have hbb := hid (fun W (hW : JL w4.heap.size w6 y0 y1 L0 L1 W) => rbase_any _ (.slice a3 bC.length c3) bB x W (R3.out _ _ _ (HF.out W hW.k).1))
      have q1 := cbase_bd Hb1.out (by omega) x
      have q2 := cbase_bd Hb2.out (by omega) x
      generalize hna : cbase aB x = na at *
      generalize hnb : cbase bB x = nb at *
      have Hna := hid hna
      have Hnb := hid hnb
      clear hna hnb
      have hst := hid (hS.out wr.drew (hL.pure (Below.refl _ _).drew))
      clear hL cn hbn
      go_wp2_with fail
      go_region_held3 (fun W => W.cell? ⟨w.heap.size, 0, none⟩ = some (.slice a0 aB.length c0) ∧ W.cell? ⟨w.heap.size, 1, none⟩ = some (.slice a1 aC.length c1) ∧ W.cell? ⟨w.heap.size + 1, 0, none⟩ = some (.slice a2 bB.length c2) ∧ W.cell? ⟨w.heap.size + 1, 1, none⟩ = some (.slice a3 bC.length c3) ∧ W.cell? ⟨w.heap.size + 1 + 1 + 1, 1, none⟩ = some (.slice x4 (aC.length + bC.length) y4) ∧ W.cell? ⟨bn, on + k, none⟩ = some (.int .i64 x) ∧ JL w4.heap.size w6 y0 y1 L0 L1 W)
        (first | with_reducible exact hst.out | with_reducible exact hS.out _ (JL.pure (hS2.out _ (by assumption)) (by assumption)))
        (first | (go_at_call 108; with_reducible refine (hba.out _ (hS2.out _ (by assumption))).mono ?_; rintro e w7 ⟨rfl, hp7⟩))
      have hx7 : JL w4.heap.size w6 y0 y1 L0 L1 w7 := hS2.out _ (by assumption)
      have HL7 := hid hx7
      clear hx7 hp7 hst
      have hst := hid (hS.out w7.drew (HL7.out.pure (Below.refl _ _).drew))
      by_cases hgt : na < nb
      · have hgt' : ¬ nb ≤ na := by omega
        go_wp2_with fail
        go_region_held3 (fun W => W.cell? ⟨w.heap.size, 0, none⟩ = some (.slice a0 aB.length c0) ∧ W.cell? ⟨w.heap.size, 1, none⟩ = some (.slice a1 aC.length c1) ∧ W.cell? ⟨w.heap.size + 1, 0, none⟩ = some (.slice a2 bB.length c2) ∧ W.cell? ⟨w.heap.size + 1, 1, none⟩ = some (.slice a3 bC.length c3) ∧ W.cell? ⟨w.heap.size + 1 + 1 + 1, 1, none⟩ = some (.slice x4 (aC.length + bC.length) y4) ∧ W.cell? ⟨bn, on + k, none⟩ = some (.int .i64 x) ∧ JL w4.heap.size w6 y0 y1 L0 L1 W)
          (first | with_reducible exact hst.out | with_reducible exact hS.out _ (JL.pure (hS2.out _ (by assumption)) (by assumption)))
          (first | (go_at_call 108; with_reducible refine (hbb.out _ (hS2.out _ (by assumption))).mono ?_; rintro e w8 ⟨rfl, hp8⟩))
        have hx : JL w4.heap.size w6 y0 y1 L0 L1 w8 := hS2.out _ (by assumption)
        have HL8 := hid hx
        clear hx hp8 hst
        have hst := hid (hS.out w8.drew (HL8.out.pure (Below.refl _ _).drew))
        go_wp2_with fail
        go_region_held3 (fun W => W.cell? ⟨w.heap.size, 0, none⟩ = some (.slice a0 aB.length c0) ∧ W.cell? ⟨w.heap.size, 1, none⟩ = some (.slice a1 aC.length c1) ∧ W.cell? ⟨w.heap.size + 1, 0, none⟩ = some (.slice a2 bB.length c2) ∧ W.cell? ⟨w.heap.size + 1, 1, none⟩ = some (.slice a3 bC.length c3) ∧ W.cell? ⟨w.heap.size + 1 + 1 + 1, 1, none⟩ = some (.slice x4 (aC.length + bC.length) y4) ∧ W.cell? ⟨bn, on + k, none⟩ = some (.int .i64 x) ∧ JL w4.heap.size w6 y0 y1 L0 L1 W)
          (first | with_reducible exact hst.out | with_reducible exact hS.out _ (JL.pure (hS2.out _ (by assumption)) (by assumption)))
          (first | (go_at_call 108; with_reducible refine (hbb.out _ (hS2.out _ (by assumption))).mono ?_; rintro e w9 ⟨rfl, hp9⟩))
        have hx : JL w4.heap.size w6 y0 y1 L0 L1 w9 := hS2.out _ (by assumption)
        have HL9 := hid hx
        clear hx hp9 hst
        have hst := hid (hS.out w9.drew (HL9.out.pure (Below.refl _ _).drew))
        have hof := hid (fun W (hW : JL w4.heap.size w6 y0 y1 L0 L1 W) => rofs_any x nb _ (aC ++ bC) W (HF.out W hW.k).2.1 (by simp; omega) (by omega) (by omega))
        have hj := hid (show jstep aB bB (aC ++ bC) (L0, L1) x = (if 0 < (cof x nb (aC ++ bC)).1 then L0 ++ [(x, (cof x nb (aC ++ bC)).1)] else L0, L1 ++ (cof x nb (aC ++ bC)).2) by unfold jstep; rw [Hna.out, Hnb.out, show max na nb = nb by omega])
        have hblen := hid (cofL_len x nb (aC ++ bC) (by simp; omega))
        generalize cof x nb (aC ++ bC) = R at *
        obtain ⟨R0, R1'⟩ := R
        dsimp only at hof hj hblen
        go_wp2_with fail
        go_region_held3 (fun W => W.cell? ⟨w.heap.size, 0, none⟩ = some (.slice a0 aB.length c0) ∧ W.cell? ⟨w.heap.size, 1, none⟩ = some (.slice a1 aC.length c1) ∧ W.cell? ⟨w.heap.size + 1, 0, none⟩ = some (.slice a2 bB.length c2) ∧ W.cell? ⟨w.heap.size + 1, 1, none⟩ = some (.slice a3 bC.length c3) ∧ W.cell? ⟨w.heap.size + 1 + 1 + 1, 1, none⟩ = some (.slice x4 (aC.length + bC.length) y4) ∧ W.cell? ⟨bn, on + k, none⟩ = some (.int .i64 x) ∧ JL w4.heap.size w6 y0 y1 L0 L1 W)
          (first | with_reducible exact hst.out | with_reducible exact hS.out _ (JL.pure (hS2.out _ (by assumption)) (by assumption)))
          (first | (go_at_call 109; with_reducible refine (hof.out _ (hS2.out _ (by assumption))).mono ?_; rintro e w10 ⟨v10, rfl, hown10, hp10⟩; obtain ⟨a10, c10, rfl⟩ := own_shape_d hown10))
        have hx : JL w4.heap.size w6 y0 y1 L0 L1 w10 := hS2.out _ (by assumption)
        have hap := hid (apart10 hown10 (hS2.out _ (by assumption)))
        have HL10 := hid hx
        have HR := hid (Row.of_own hown10)
        have hblen' := hblen.out
        have ho6 : w4.heap.size < w6.heap.size := by have := HL6.out.out; exact lt_of_block this
        have h106 : w6.heap.size ≤ w10.heap.size := HL10.out.k.size
        have nx := hcn.out w10 HL10.out.k
        obtain ⟨o0, o1, of0, of1⟩ := HL10.out.cells
        have hn10 : bn < w10.heap.size := World.block_lt_of_cell? w10 _ nx
        have ho10 : w4.heap.size < w10.heap.size := lt_of_block HL10.out.out
        clear hx hp10 hown10 hst
        by_cases hpos : 0 < R0
        · have hstL : Hid (∀ (v' : Value) (w' : World), w'.ownsRow w6.heap.size 28 2 v' (L0.length + 1) (dvs L0 ++ dvs [(x, R0)]) → (w10.drew.alloc (.cells #[.int .i64 x, .int .i64 R0] 28)).grownBy w' y0.ownBlock → FreshOr (w10.drew.alloc (.cells #[.int .i64 x, .int .i64 R0] 28)) y0 v' →
              w'.heap[w4.heap.size]? = some (.cells #[y0, y1] 32 (0, 0)) ∧ JL w4.heap.size w6 v' y1 (L0 ++ [(x, R0)]) L1 (w'.setCell ⟨w4.heap.size, 0, none⟩ v') ∧ Row (w'.setCell ⟨w4.heap.size, 0, none⟩ v') (.slice a10 R1'.length c10) R1'.length 2 (dvs R1')) := fun v' w' h1 h2 h3 => by
            have hJ := HL10.out.pure (show Pure w10 (w10.drew.alloc (.cells #[.int .i64 x, .int .i64 R0] 28)) from ((Below.refl _ _).drew).alloc (Nat.le_refl _) _)
            obtain ⟨g1, g2⟩ := JL.grow0 hJ h2 (L0' := L0 ++ [(x, R0)]) (by rw [dvs_append, List.length_append]; exact h1) h3 ho6
            refine ⟨g1, g2, HR.out.same fun g hg => ?_⟩
            obtain ⟨⟨p1, _⟩, p2, p3⟩ := hap.out g hg
            have e1 : (w'.setCell ⟨w4.heap.size, 0, none⟩ v').heap[g]? = w'.heap[g]? := (kept_set w' w4.heap.size 0 v').block g (Nat.lt_of_lt_of_le p3 (Nat.le_trans (by simp) h2.size)) p2
            rw [e1, h2.block g (by simp; omega) (fun e => p1 e.symm)]
            rw [Below.heap_alloc _ _ _ (show g < w10.drew.heap.size from p3)]; rfl
          go_wp2_with fail
          go_region_law (refine step_append_own2 rfl (.tmp 78) (.tmp 85) 30 rfl w6.heap.size 28 i0 (.agg #[.int .i64 0, .int .i64 0]) 2 16 Tryz.underlying30 hi hz0 hz1 hz2 rfl (by decide) y0 L0.length (dvs L0) (by simp [Act.eval]) (World.ownsRow.alloc HL10.out.r0 _) ⟨w10.heap.size, 0, none⟩ 1 1 (dvs [(x, R0)]) (by simp [Act.eval]) rfl (dots_lit_cells _ x R0) (dvs_one _) (by unfold maxLen; omega) (by omega) (by simp; omega) ?_; intro v' w' hown' hg' hf'; obtain ⟨hb', hL', hR'⟩ := hstL.out v' w' hown' hg' hf'; have s1 : w'.cell? ⟨w4.heap.size, 0, none⟩ = some y0 := cell_of_block hb' 0; have s2 : w'.frozen? ⟨w4.heap.size, 0, none⟩ = false := free_of_block hb' 0; have s3 : w'.cell? ⟨w4.heap.size, 1, none⟩ = some y1 := cell_of_block hb' 1; have s4 : w'.frozen? ⟨w4.heap.size, 1, none⟩ = false := free_of_block hb' 1; clear hb'; obtain ⟨a9, c9, rfl⟩ := own_shape_d hown'; have HL11 := hid hL'; have HR11 := hid hR'; clear hown' hg' hf' hL' hR')
          all_goals
            go_wp2_with (at_builtin; refine wpList_append_rows2 rfl _ _ 30 rfl w6.heap.size 28 i0 (.agg #[.int .i64 0, .int .i64 0]) 2 16 Tryz.underlying30 hi hz0 hz1 hz2 rfl (by decide) (by decide) y1 L1.length (dvs L1) rfl HL11.out.r1 _ R1'.length (dvs R1') rfl HR11.out (dvs_one _) (by omega) HL11.out.k.size ?_)
            intro v12 w12 hown12 hg12 hf12
            obtain ⟨hb12, hL12⟩ := JL.grow1 HL11.out hg12 (L1' := L1 ++ R1') (by rw [dvs_append, List.length_append]; exact hown12) hf12 ho6
            have u1 : w12.cell? ⟨w4.heap.size, 1, none⟩ = some y1 := cell_of_block hb12 1
            have u2 : w12.frozen? ⟨w4.heap.size, 1, none⟩ = false := free_of_block hb12 1
            obtain ⟨a12, c12, rfl⟩ := own_shape_d hown12
            have HL12 := hid hL12
            clear hown12 hg12 hf12 hb12 hL12
            go_wp2
            go_roundw
            (case rel => exact ⟨k + 1, _, _, by omega, by go_num, by rw [Hstep.out, hj.out]; simp only [hpos, if_true]; exact HL12.out⟩)
            (case measure => simp [RowKit.intOf]; omega)
        · have hpos' : R0 ≤ 0 := by omega
          go_wp2_with (at_builtin; refine wpList_append_rows2 rfl _ _ 30 rfl w6.heap.size 28 i0 (.agg #[.int .i64 0, .int .i64 0]) 2 16 Tryz.underlying30 hi hz0 hz1 hz2 rfl (by decide) (by decide) y1 L1.length (dvs L1) rfl HL10.out.r1 _ R1'.length (dvs R1') rfl HR.out (dvs_one _) (by omega) HL10.out.k.size ?_)
          intro v12 w12 hown12 hg12 hf12
          obtain ⟨hb12, hL12⟩ := JL.grow1 HL10.out hg12 (L1' := L1 ++ R1') (by rw [dvs_append, List.length_append]; exact hown12) hf12 ho6
          have u1 : w12.cell? ⟨w4.heap.size, 1, none⟩ = some y1 := cell_of_block hb12 1
          have u2 : w12.frozen? ⟨w4.heap.size, 1, none⟩ = false := free_of_block hb12 1
          obtain ⟨a12, c12, rfl⟩ := own_shape_d hown12
          have HL12 := hid hL12
          clear hown12 hg12 hf12 hb12 hL12
          go_wp2
          go_roundw
          (case rel => exact ⟨k + 1, _, _, by omega, by go_num, by rw [Hstep.out, hj.out]; rw [if_neg (show ¬ 0 < R0 by omega)]; exact HL12.out⟩)
          (case measure => simp [RowKit.intOf]; omega)
      · have hgt' : nb ≤ na := by omega
        go_wp2_with fail
        go_region_held3 (fun W => W.cell? ⟨w.heap.size, 0, none⟩ = some (.slice a0 aB.length c0) ∧ W.cell? ⟨w.heap.size, 1, none⟩ = some (.slice a1 aC.length c1) ∧ W.cell? ⟨w.heap.size + 1, 0, none⟩ = some (.slice a2 bB.length c2) ∧ W.cell? ⟨w.heap.size + 1, 1, none⟩ = some (.slice a3 bC.length c3) ∧ W.cell? ⟨w.heap.size + 1 + 1 + 1, 1, none⟩ = some (.slice x4 (aC.length + bC.length) y4) ∧ W.cell? ⟨bn, on + k, none⟩ = some (.int .i64 x) ∧ JL w4.heap.size w6 y0 y1 L0 L1 W)
          (first | with_reducible exact hst.out | with_reducible exact hS.out _ (JL.pure (hS2.out _ (by assumption)) (by assumption)))
          (first | (go_at_call 108; with_reducible refine (hbb.out _ (hS2.out _ (by assumption))).mono ?_; rintro e w9 ⟨rfl, hp9⟩))
        have hx : JL w4.heap.size w6 y0 y1 L0 L1 w9 := hS2.out _ (by assumption)
        have HL9 := hid hx
        clear hx hp9 hst
        have hst := hid (hS.out w9.drew (HL9.out.pure (Below.refl _ _).drew))
        have hof := hid (fun W (hW : JL w4.heap.size w6 y0 y1 L0 L1 W) => rofs_any x na _ (aC ++ bC) W (HF.out W hW.k).2.1 (by simp; omega) (by omega) (by omega))
        have hj := hid (show jstep aB bB (aC ++ bC) (L0, L1) x = (if 0 < (cof x na (aC ++ bC)).1 then L0 ++ [(x, (cof x na (aC ++ bC)).1)] else L0, L1 ++ (cof x na (aC ++ bC)).2) by unfold jstep; rw [Hna.out, Hnb.out, show max na nb = na by omega])
        have hblen := hid (cofL_len x na (aC ++ bC) (by simp; omega))
        generalize cof x na (aC ++ bC) = R at *
        obtain ⟨R0, R1'⟩ := R
        dsimp only at hof hj hblen
        go_wp2_with fail
        go_region_held3 (fun W => W.cell? ⟨w.heap.size, 0, none⟩ = some (.slice a0 aB.length c0) ∧ W.cell? ⟨w.heap.size, 1, none⟩ = some (.slice a1 aC.length c1) ∧ W.cell? ⟨w.heap.size + 1, 0, none⟩ = some (.slice a2 bB.length c2) ∧ W.cell? ⟨w.heap.size + 1, 1, none⟩ = some (.slice a3 bC.length c3) ∧ W.cell? ⟨w.heap.size + 1 + 1 + 1, 1, none⟩ = some (.slice x4 (aC.length + bC.length) y4) ∧ W.cell? ⟨bn, on + k, none⟩ = some (.int .i64 x) ∧ JL w4.heap.size w6 y0 y1 L0 L1 W)
          (first | with_reducible exact hst.out | with_reducible exact hS.out _ (JL.pure (hS2.out _ (by assumption)) (by assumption)))
          (first | (go_at_call 109; with_reducible refine (hof.out _ (hS2.out _ (by assumption))).mono ?_; rintro e w10 ⟨v10, rfl, hown10, hp10⟩; obtain ⟨a10, c10, rfl⟩ := own_shape_d hown10))
        have hx : JL w4.heap.size w6 y0 y1 L0 L1 w10 := hS2.out _ (by assumption)
        have hap := hid (apart10 hown10 (hS2.out _ (by assumption)))
        have HL10 := hid hx
        have HR := hid (Row.of_own hown10)
        have hblen' := hblen.out
        have ho6 : w4.heap.size < w6.heap.size := by have := HL6.out.out; exact lt_of_block this
        have h106 : w6.heap.size ≤ w10.heap.size := HL10.out.k.size
        have nx := hcn.out w10 HL10.out.k
        obtain ⟨o0, o1, of0, of1⟩ := HL10.out.cells
        have hn10 : bn < w10.heap.size := World.block_lt_of_cell? w10 _ nx
        have ho10 : w4.heap.size < w10.heap.size := lt_of_block HL10.out.out
        clear hx hp10 hown10 hst
        by_cases hpos : 0 < R0
        · have hstL : Hid (∀ (v' : Value) (w' : World), w'.ownsRow w6.heap.size 28 2 v' (L0.length + 1) (dvs L0 ++ dvs [(x, R0)]) → (w10.drew.alloc (.cells #[.int .i64 x, .int .i64 R0] 28)).grownBy w' y0.ownBlock → FreshOr (w10.drew.alloc (.cells #[.int .i64 x, .int .i64 R0] 28)) y0 v' →
              w'.heap[w4.heap.size]? = some (.cells #[y0, y1] 32 (0, 0)) ∧ JL w4.heap.size w6 v' y1 (L0 ++ [(x, R0)]) L1 (w'.setCell ⟨w4.heap.size, 0, none⟩ v') ∧ Row (w'.setCell ⟨w4.heap.size, 0, none⟩ v') (.slice a10 R1'.length c10) R1'.length 2 (dvs R1')) := fun v' w' h1 h2 h3 => by
            have hJ := HL10.out.pure (show Pure w10 (w10.drew.alloc (.cells #[.int .i64 x, .int .i64 R0] 28)) from ((Below.refl _ _).drew).alloc (Nat.le_refl _) _)
            obtain ⟨g1, g2⟩ := JL.grow0 hJ h2 (L0' := L0 ++ [(x, R0)]) (by rw [dvs_append, List.length_append]; exact h1) h3 ho6
            refine ⟨g1, g2, HR.out.same fun g hg => ?_⟩
            obtain ⟨⟨p1, _⟩, p2, p3⟩ := hap.out g hg
            have e1 : (w'.setCell ⟨w4.heap.size, 0, none⟩ v').heap[g]? = w'.heap[g]? := (kept_set w' w4.heap.size 0 v').block g (Nat.lt_of_lt_of_le p3 (Nat.le_trans (by simp) h2.size)) p2
            rw [e1, h2.block g (by simp; omega) (fun e => p1 e.symm)]
            rw [Below.heap_alloc _ _ _ (show g < w10.drew.heap.size from p3)]; rfl
          go_wp2_with fail
          go_region_law (refine step_append_own2 rfl (.tmp 78) (.tmp 85) 30 rfl w6.heap.size 28 i0 (.agg #[.int .i64 0, .int .i64 0]) 2 16 Tryz.underlying30 hi hz0 hz1 hz2 rfl (by decide) y0 L0.length (dvs L0) (by simp [Act.eval]) (World.ownsRow.alloc HL10.out.r0 _) ⟨w10.heap.size, 0, none⟩ 1 1 (dvs [(x, R0)]) (by simp [Act.eval]) rfl (dots_lit_cells _ x R0) (dvs_one _) (by unfold maxLen; omega) (by omega) (by simp; omega) ?_; intro v' w' hown' hg' hf'; obtain ⟨hb', hL', hR'⟩ := hstL.out v' w' hown' hg' hf'; have s1 : w'.cell? ⟨w4.heap.size, 0, none⟩ = some y0 := cell_of_block hb' 0; have s2 : w'.frozen? ⟨w4.heap.size, 0, none⟩ = false := free_of_block hb' 0; have s3 : w'.cell? ⟨w4.heap.size, 1, none⟩ = some y1 := cell_of_block hb' 1; have s4 : w'.frozen? ⟨w4.heap.size, 1, none⟩ = false := free_of_block hb' 1; clear hb'; obtain ⟨a9, c9, rfl⟩ := own_shape_d hown'; have HL11 := hid hL'; have HR11 := hid hR'; clear hown' hg' hf' hL' hR')
          all_goals
            go_wp2_with (at_builtin; refine wpList_append_rows2 rfl _ _ 30 rfl w6.heap.size 28 i0 (.agg #[.int .i64 0, .int .i64 0]) 2 16 Tryz.underlying30 hi hz0 hz1 hz2 rfl (by decide) (by decide) y1 L1.length (dvs L1) rfl HL11.out.r1 _ R1'.length (dvs R1') rfl HR11.out (dvs_one _) (by omega) HL11.out.k.size ?_)
            intro v12 w12 hown12 hg12 hf12
            obtain ⟨hb12, hL12⟩ := JL.grow1 HL11.out hg12 (L1' := L1 ++ R1') (by rw [dvs_append, List.length_append]; exact hown12) hf12 ho6
            have u1 : w12.cell? ⟨w4.heap.size, 1, none⟩ = some y1 := cell_of_block hb12 1
            have u2 : w12.frozen? ⟨w4.heap.size, 1, none⟩ = false := free_of_block hb12 1
            obtain ⟨a12, c12, rfl⟩ := own_shape_d hown12
            have HL12 := hid hL12
            clear hown12 hg12 hf12 hb12 hL12
            go_wp2
            go_roundw
            (case rel => exact ⟨k + 1, _, _, by omega, by go_num, by rw [Hstep.out, hj.out]; simp only [hpos, if_true]; exact HL12.out⟩)
            (case measure => simp [RowKit.intOf]; omega)
        · have hpos' : R0 ≤ 0 := by omega
          go_wp2_with (at_builtin; refine wpList_append_rows2 rfl _ _ 30 rfl w6.heap.size 28 i0 (.agg #[.int .i64 0, .int .i64 0]) 2 16 Tryz.underlying30 hi hz0 hz1 hz2 rfl (by decide) (by decide) y1 L1.length (dvs L1) rfl HL10.out.r1 _ R1'.length (dvs R1') rfl HR.out (dvs_one _) (by omega) HL10.out.k.size ?_)
          intro v12 w12 hown12 hg12 hf12
          obtain ⟨hb12, hL12⟩ := JL.grow1 HL10.out hg12 (L1' := L1 ++ R1') (by rw [dvs_append, List.length_append]; exact hown12) hf12 ho6
          have u1 : w12.cell? ⟨w4.heap.size, 1, none⟩ = some y1 := cell_of_block hb12 1
          have u2 : w12.frozen? ⟨w4.heap.size, 1, none⟩ = false := free_of_block hb12 1
          obtain ⟨a12, c12, rfl⟩ := own_shape_d hown12
          have HL12 := hid hL12
          clear hown12 hg12 hf12 hb12 hL12
          go_wp2
          go_roundw
          (case rel => exact ⟨k + 1, _, _, by omega, by go_num, by rw [Hstep.out, hj.out]; rw [if_neg (show ¬ 0 < R0 by omega)]; exact HL12.out⟩)
          (case measure => simp [RowKit.intOf]; omega)
    · have hlt' : ¬ (k : Int) < (N.length : Int) := by omega
      rw [List.take_of_length_le (by omega)] at hL
      have hcj := hid (show cjoin aB aC bB bC = N.foldl (jstep aB bB (aC ++ bC)) ([], []) by rw [HN.out]; rfl)
      generalize N.foldl (jstep aB bB (aC ++ bC)) ([], []) = L at *
      obtain ⟨L0, L1⟩ := L
      dsimp only at hL
      obtain ⟨o0, o1, _, _⟩ := hL.cells
      have hres := HR6.out wr hL.k
      have r0 : wr.cell? ⟨w.heap.size + 1 + 1, 0, none⟩ = some (.slice none 0 0) := cell_of_block hres 0
      have r1 : wr.cell? ⟨w.heap.size + 1 + 1, 1, none⟩ = some (.slice none 0 0) := cell_of_block hres 1
      have r2 : wr.frozen? ⟨w.heap.size + 1 + 1, 0, none⟩ = false := free_of_block hres 0
      have r3 : wr.frozen? ⟨w.heap.size + 1 + 1, 1, none⟩ = false := free_of_block hres 1
      have HL := hid hL
      obtain ⟨p0, k0, rfl⟩ := own_shape_d hL.r0
      obtain ⟨p1, k1, rfl⟩ := own_shape_d hL.r1
      have t0 : (wr.setCell ⟨w.heap.size + 1 + 1, 0, none⟩ (.slice p0 L0.length k0)).cell? ⟨w.heap.size + 1 + 1, 0, none⟩ = some (.slice p0 L0.length k0) := by
        rw [cell_of_block (block_setCell hres 0 (.slice p0 L0.length k0)) 0]; simp
      have t1 : ((wr.setCell ⟨w.heap.size + 1 + 1, 0, none⟩ (.slice p0 L0.length k0)).setCell ⟨w.heap.size + 1 + 1, 1, none⟩ (.slice p1 L1.length k1)).cell? ⟨w.heap.size + 1 + 1, 1, none⟩ = some (.slice p1 L1.length k1) := by
        rw [cell_of_block (block_setCell (block_setCell hres 0 (.slice p0 L0.length k0)) 1 (.slice p1 L1.length k1)) 1]; simp
      have T0 := hid t0
      have T1 := hid t1
      clear hL hres t0 t1
      have hfin : Hid (Dots ((wr.setCell ⟨w.heap.size + 1 + 1, 0, none⟩ (.slice p0 L0.length k0)).setCell ⟨w.heap.size + 1 + 1, 1, none⟩ (.slice p1 L1.length k1)) (.slice p0 L0.length k0) L0 ∧
          Dots ((wr.setCell ⟨w.heap.size + 1 + 1, 0, none⟩ (.slice p0 L0.length k0)).setCell ⟨w.heap.size + 1 + 1, 1, none⟩ (.slice p1 L1.length k1)) (.slice p1 L1.length k1) L1 ∧
          Pure w ((wr.setCell ⟨w.heap.size + 1 + 1, 0, none⟩ (.slice p0 L0.length k0)).setCell ⟨w.heap.size + 1 + 1, 1, none⟩ (.slice p1 L1.length k1)) ∧ (∀ k, Value.rb (.slice p0 L0.length k0) = some k → w.heap.size ≤ k) ∧ (∀ k, Value.rb (.slice p1 L1.length k1) = some k → w.heap.size ≤ k)) := by
        have hlt6 : w.heap.size + 1 + 1 < w6.heap.size := by have := lt_of_block HL6.out.out; omega
        refine ⟨Row.of_own (own_setCell (own_setCell HL.out.r0 _ hlt6 _) _ hlt6 _), Row.of_own (own_setCell (own_setCell HL.out.r1 _ hlt6 _) _ hlt6 _), ?_, fun k hk => by have := (HL.out.r0.lt k (rb_own hk)).1; omega, fun k hk => by have := (HL.out.r1.lt k (rb_own hk)).1; omega⟩
        have hk1 : Kept (fun k => w.heap.size ≤ k) wz w6 := HJ6.out.k.mono (fun k _ e => by omega)
        have hk2 : Kept (fun k => w.heap.size ≤ k) wz wr := hk1.trans (HL.out.k.mono (fun k _ e => by omega))
        have hk3 : Kept (fun k => w.heap.size ≤ k) wz ((wr.setCell ⟨w.heap.size + 1 + 1, 0, none⟩ (.slice p0 L0.length k0)).setCell ⟨w.heap.size + 1 + 1, 1, none⟩ (.slice p1 L1.length k1)) :=
          (hk2.setCell (fun _ => by show w.heap.size ≤ w.heap.size + 1 + 1; omega) _).setCell (fun _ => by show w.heap.size ≤ w.heap.size + 1 + 1; omega) _
        exact Below.trans Hwz.out (hk3.below Hwz.out.size (fun k hk e => by omega))
      go_wp2
      refine bodyPost_ret (v := .agg #[.slice p0 L0.length k0, .slice p1 L1.length k1]) (by simp [results, Tryz.results50, go_sem, T0.out, T1.out]) rfl ⟨_, _, rfl, ?_⟩
      rw [hcj.out]
      exact hfin.out
end Go.Proofs.YtdlpnhfgjficgaaGreat
