/- law04: made. -/
import Derived.Test.YtimcjkimehhgcaaQL
import Derived.Test.YtimcjkimehhgcaaQK
namespace Go.Proofs.Ytimcjkimehhgcaa
open Go.RowKit Go.Maps Go.Shelf Go.Sort

/-- What is known while made's first loop runs: the context that came in (block s), the result (s + 1), what was made so far (s + 2). -/
structure MdI (s : Nat) (wz : World) (B C : List Dot) (M : List Dot × List Dot) (v0 v1 : Value) (W : World) : Prop where
  out : W.heap[s + 2]? = some (.cells #[v0, v1] 24 (0, 0))
  r0 : Dots W v0 M.1
  r1 : Dots W v1 M.2
  f0 : ∀ k, v0.rb = some k → s + 3 ≤ k
  f1 : ∀ k, v1.rb = some k → s + 3 ≤ k
  k : Kept (fun k => k = s + 2) wz W
theorem JOk.of_ok {B C : List Dot} (h : COk B C) : JOk B C :=
  ⟨br_rise h.br, fun d hd => by have := h.bok d hd; unfold dok at this; omega, fun d hd => by have := h.cok d hd; unfold dok at this; omega, fun d hd => wf_dok (h.bok d hd), fun d hd => wf_dok (h.cok d hd)⟩

set_option maxRecDepth 8000 in
set_option maxHeartbeats 4000000 in
theorem made_any (vb vc : Value) (B C : List Dot) (w : World) (h1 : Dots w vb B) (h2 : Dots w vc C) :
    Calls Try.prog 10 #[cv vb vc] w (CtxF w (madeC B C).1 (madeC B C).2) := by
  obtain ⟨i0, hi, hz0, hz1, hz2⟩ := info_parts infoDot
  obtain ⟨a0, c0, rfl⟩ := h1.shape
  obtain ⟨a1, c1, rfl⟩ := h2.shape
  have hlB := h1.len_le
  have hlC := h2.len_le
  unfold maxLen at hlB hlC
  obtain ⟨wz, hwz⟩ : ∃ wz, wz = ((w.alloc (.cells #[.slice a0 B.length c0, .slice a1 C.length c1] 24)).alloc (.cells #[.slice none 0 0, .slice none 0 0] 24)).alloc (.cells #[.slice none 0 0, .slice none 0 0] 24) := ⟨_, rfl⟩
  have Hpz := hid (show Pure w wz from by rw [hwz]; exact (((Below.refl _ _).alloc (Nat.le_refl _) _).alloc (by simp) _).alloc (by simp; omega) _)
  have Hsz := hid (show wz.heap.size = w.heap.size + 3 from by rw [hwz]; simp)
  have hbk : Hid (wz.heap[w.heap.size]? = some (.cells #[.slice a0 B.length c0, .slice a1 C.length c1] 24 (0, 0)) ∧ wz.heap[w.heap.size + 1]? = some (.cells #[.slice none 0 0, .slice none 0 0] 24 (0, 0)) ∧ wz.heap[w.heap.size + 2]? = some (.cells #[.slice none 0 0, .slice none 0 0] 24 (0, 0))) := by
    show wz.heap[w.heap.size]? = _ ∧ wz.heap[w.heap.size + 1]? = _ ∧ wz.heap[w.heap.size + 2]? = _
    rw [hwz]
    have n1 := block_alloc_new (w.alloc (.cells #[.slice a0 B.length c0, .slice a1 C.length c1] 24)) (.cells #[.slice none 0 0, .slice none 0 0] 24)
    have n2 := block_alloc_new ((w.alloc (.cells #[.slice a0 B.length c0, .slice a1 C.length c1] 24)).alloc (.cells #[.slice none 0 0, .slice none 0 0] 24)) (.cells #[.slice none 0 0, .slice none 0 0] 24)
    simp only [World.size_alloc] at n1 n2
    exact ⟨block_alloc_old (block_alloc_old (block_alloc_new _ _) _) _, block_alloc_old n1 _, n2⟩
  have hrow : ∀ {v : Value} {l : List Dot}, Dots w v l → ∀ W, Kept (fun k => k = w.heap.size + 2) wz W → Dots W v l := fun hv W hW => Row.kept (Row.pure hv Hpz.out) hW (fun k hk e => by have := Row.lt hv k hk; omega)
  have HB := hid (fun W (hW : Kept (fun k => k = w.heap.size + 2) wz W) => hrow h1 W hW)
  have HC := hid (fun W (hW : Kept (fun k => k = w.heap.size + 2) wz W) => hrow h2 W hW)
  have hCc : Hid (∀ W, Kept (fun k => k = w.heap.size + 2) wz W → (W.cell? ⟨w.heap.size, 0, none⟩ = some (.slice a0 B.length c0) ∧ W.cell? ⟨w.heap.size, 1, none⟩ = some (.slice a1 C.length c1))) := fun W hW => by
    have e0 := (hW.block _ (lt_of_block hbk.out.1) (by omega)).trans hbk.out.1
    exact ⟨cell_of_block e0 0, cell_of_block e0 1⟩
  have hchk := hid (fun d W => rchk_any d W)
  have Hst := hid (fun k h => mfold_take B k h)
  have Hok := hid (fun k h => mfold_ok B k h)
  clear h1 h2 hrow
  unfold cv
  go_enter Try.func10, Try.ntmps10
  go_wp2_with fail
  rw [← hwz]
  clear hwz
  go_loopw [4] (fun i wr => ∃ (k : Nat) (v0 v1 : Value), k ≤ B.length ∧ k ≤ 12 ∧ i = .int .i64 k ∧ MdI w.heap.size wz B C (mfold (B.take k)) v0 v1 wr) (fun i _ => B.length - (RowKit.intOf i).toNat)
  case atStart => exact ⟨0, _, _, Nat.zero_le _, Nat.zero_le _, rfl, hbk.out.2.2, Row.nil _ _, Row.nil _ _, fun k hk => by simp [Value.rb] at hk, fun k hk => by simp [Value.rb] at hk, Kept.refl _ _⟩
  case round =>
    obtain ⟨k, v0, v1, hk, hk12, rfl, hI⟩ := hrel
    obtain ⟨g0, g1⟩ := hCc.out wr hI.k
    by_cases hlt : k < B.length ∧ k < 12
    · obtain ⟨hlt, h12⟩ := hlt
      have hlt' : (k : Int) < (B.length : Int) := by omega
      have h12' : (k : Int) < 12 := by omega
      obtain ⟨b, off, rfl, hb, x0, x1⟩ := Dots.get (HB.out wr hI.k) hlt
      have hdc : Hid (∀ W, Kept (fun k => k = w.heap.size + 2) wz W → (W.cell? ⟨b, off + k * 2, none⟩ = some (.int .i64 (B.getD k (0, 0)).1) ∧ W.cell? ⟨b, off + k * 2 + 1, none⟩ = some (.int .i64 (B.getD k (0, 0)).2))) := fun W hW => by
        obtain ⟨b', off', e', _, y0, y1⟩ := Dots.get (HB.out W hW) hlt
        cases e'
        exact ⟨y0, y1⟩
      have hc := hid (hchk.out (B.getD k (0, 0)) wr)
      have Hs := hid (Hst.out k hlt)
      have Hk := hid (Hok.out k hk)
      generalize mfold (B.take k) = M at *
      generalize B.getD k (0, 0) = z at *
      obtain ⟨z1, z2⟩ := z
      dsimp only at x0 x1
      unfold dv at hc
      dsimp only at hc
      unfold mstep at Hs
      cases hz : dchk (z1, z2) with
      | false =>
        rw [hz] at hc Hs
        have Hz := hid hz
        have HI := hid hI
        clear hz hI hb
        go_wp2_with fail
        refine hc.out.mono ?_
        rintro e w2 ⟨rfl, hp2⟩
        have Hp2 := hid hp2
        clear hp2 g0 g1 x0 x1
        go_wp2
        go_roundw
        case rel => exact ⟨k + 1, v0, v1, by omega, by omega, by go_num, (Hp2.out.block _ (lt_of_block HI.out.out)).trans HI.out.out, by rw [Hs.out]; exact Row.pure HI.out.r0 Hp2.out, by rw [Hs.out]; exact Row.pure HI.out.r1 Hp2.out, HI.out.f0, HI.out.f1, HI.out.k.trans Hp2.out.kept⟩
        case measure => simp [RowKit.intOf]; omega
      | true =>
        rw [hz] at hc Hs
        have Hz := hid hz
        have HI := hid hI
        clear hz hI hb
        go_wp2_with fail
        refine hc.out.mono ?_
        rintro e w2 ⟨rfl, hp2⟩
        have hk2 := HI.out.k.trans (hp2.kept (S := fun k => k = w.heap.size + 2))
        have hb2 : w2.heap[w.heap.size + 1 + 1]? = some (.cells #[v0, v1] 24 (0, 0)) := (hp2.block _ (lt_of_block HI.out.out)).trans HI.out.out
        obtain ⟨Wj, hWj⟩ : ∃ Wj, Wj = (w2.alloc (.cells #[.int .i64 z1, .int .i64 z2] 30)).drew := ⟨_, rfl⟩
        have hpj : Pure w2 Wj := by rw [hWj]; exact ((Below.refl _ _).alloc (Nat.le_refl _) _).drew
        have hr1 : Dots Wj (.slice (some ⟨w2.heap.size, 0, none⟩) 1 1) [(z1, z2)] := by rw [hWj]; exact dots_lit w2 z1 z2
        have t0 : w2.cell? ⟨w.heap.size + 1 + 1, 0, none⟩ = some v0 := cell_of_block hb2 0
        have t1 : w2.cell? ⟨w.heap.size + 1 + 1, 1, none⟩ = some v1 := cell_of_block hb2 1
        have t2 : ∀ o, (w2.alloc o).cell? ⟨w.heap.size + 1 + 1, 0, none⟩ = some v0 := fun o => cell_of_block (block_alloc_old hb2 o) 0
        have t3 : ∀ o, (w2.alloc o).cell? ⟨w.heap.size + 1 + 1, 1, none⟩ = some v1 := fun o => cell_of_block (block_alloc_old hb2 o) 1
        have hd := dchk_iff.1 Hz.out
        have hbds : ∀ d ∈ M.1, 0 ≤ d.2 ∧ d.2 ≤ 1152921504606846976 := fun d hd => by have := Hk.out.1.bok d hd; unfold dok at this; omega
        have hj := hid (rjoin_any v0 v1 _ (.slice none 0 0) M.1 M.2 [(z1, z2)] [] Wj (Row.pure HI.out.r0 (hp2.then_ hpj)) (Row.pure HI.out.r1 (hp2.then_ hpj)) hr1 (Row.nil _ _) (by have h1 := Hk.out.2.1; have h2 := Hk.out.2.2; simp only [List.length_cons, List.length_nil]; omega) hbds (by unfold dok at hd; simp; omega))
        simp only [if_true] at Hs
        rw [← Hs.out] at hj
        have hS : Hid (∀ W, Kept (fun k => k = w.heap.size + 2) wz W → (W.cell? ⟨w.heap.size, 0, none⟩ = some (.slice (some ⟨b, off, none⟩) B.length c0) ∧ W.cell? ⟨b, off + k * 2, none⟩ = some (.int .i64 z1) ∧ W.cell? ⟨b, off + k * 2 + 1, none⟩ = some (.int .i64 z2) ∧ Kept (fun k => k = w.heap.size + 2) wz W)) := fun W hW => ⟨(hCc.out W hW).1, (hdc.out W hW).1, (hdc.out W hW).2, hW⟩
        have hst := hid (hS.out w2.drew hk2.drew)
        have hstj := hid (hS.out Wj (hk2.trans hpj.kept))
        have hS2 : Hid (∀ W : World, (W.cell? ⟨w.heap.size, 0, none⟩ = some (.slice (some ⟨b, off, none⟩) B.length c0) ∧ W.cell? ⟨b, off + k * 2, none⟩ = some (.int .i64 z1) ∧ W.cell? ⟨b, off + k * 2 + 1, none⟩ = some (.int .i64 z2) ∧ Kept (fun k => k = w.heap.size + 2) wz W) → Kept (fun k => k = w.heap.size + 2) wz W) := fun W h => h.2.2.2
        have HWj := hid hWj.symm
        have hbj := hid (show Wj.heap[w.heap.size + 1 + 1]? = some (.cells #[v0, v1] 24 (0, 0)) from (hpj.block _ (lt_of_block hb2)).trans hb2)
        obtain ⟨q0, q1⟩ := hCc.out w2 hk2
        obtain ⟨y0, y1⟩ := hdc.out w2 hk2
        clear g0 g1 x0 x1
        clear hr1 hd hbds hp2 hpj hb2 hWj hk2
        go_wp2_with fail
        refine wp_region_held_drew (S := (fun W => W.cell? ⟨w.heap.size, 0, none⟩ = some (.slice (some ⟨b, off, none⟩) B.length c0) ∧ W.cell? ⟨b, off + k * 2, none⟩ = some (.int .i64 z1) ∧ W.cell? ⟨b, off + k * 2 + 1, none⟩ = some (.int .i64 z2) ∧ Kept (fun k => k = w.heap.size + 2) wz W)) (by kernel_rfl) ?_ (fun hHeld => ?_)
        · first | assumption | with_reducible exact hst.out | (rw [HWj.out]; with_reducible exact hstj.out) | with_reducible exact hS.out _ (Kept.trans (hS2.out _ (by assumption)) (Pure.kept (by assumption))) | with_reducible exact hS.out _ (Kept.trans (hS2.out _ hstj.out) (Pure.kept (by assumption))) | exact hS.out _ (Kept.setCell (Kept.setCell (hS2.out _ (by assumption)) (fun _ => rfl) _) (fun _ => rfl) _)
        refine wpAnyH_take (i := 1) (v := ?_) rfl (by kernel_rfl) (by kernel_rfl) (by kernel_rfl) (fun _ _ _ h => h) (Or.inl ⟨by rfl, ?_⟩) (by assumption) ?_
        rotate_left
        · intro w hSw; (try dsimp only at hSw); (try simp only [List.getElem_toArray, List.getElem_cons_succ, List.getElem_cons_zero]); go_simp; try with_reducible rfl
        try simp only [Act.put, List.setIfInBounds_toArray, List.set_cons_zero, List.set_cons_succ, List.getElem_toArray, List.getElem_cons_succ, List.getElem_cons_zero]
        refine wpAnyH_take (i := 2) (v := ?_) rfl (by kernel_rfl) (by kernel_rfl) (by kernel_rfl) (fun _ _ _ h => h) (Or.inl ⟨by rfl, ?_⟩) (by assumption) ?_
        rotate_left
        · intro w hSw; (try dsimp only at hSw); (try simp only [List.getElem_toArray, List.getElem_cons_succ, List.getElem_cons_zero]); go_simp; try with_reducible rfl
        try simp only [Act.put, List.setIfInBounds_toArray, List.set_cons_zero, List.set_cons_succ, List.getElem_toArray, List.getElem_cons_succ, List.getElem_cons_zero]
        refine wpAnyH_take (i := 3) (v := ?_) rfl (by kernel_rfl) (by kernel_rfl) (by kernel_rfl) (fun _ _ _ h => h) (Or.inl ⟨by rfl, ?_⟩) (by assumption) ?_
        rotate_left
        · intro w hSw; (try dsimp only at hSw); (try simp only [List.getElem_toArray, List.getElem_cons_succ, List.getElem_cons_zero]); go_simp; try with_reducible rfl
        try simp only [Act.put, List.setIfInBounds_toArray, List.set_cons_zero, List.set_cons_succ, List.getElem_toArray, List.getElem_cons_succ, List.getElem_cons_zero]
        refine wpAnyH_take (i := 4) (v := ?_) rfl (by kernel_rfl) (by kernel_rfl) (by kernel_rfl) (fun _ _ _ h => h) (Or.inl ⟨by rfl, ?_⟩) (by assumption) ?_
        rotate_left
        · intro w hSw; (try dsimp only at hSw); (try simp only [List.getElem_toArray, List.getElem_cons_succ, List.getElem_cons_zero]); go_simp; try with_reducible rfl
        try simp only [Act.put, List.setIfInBounds_toArray, List.set_cons_zero, List.set_cons_succ, List.getElem_toArray, List.getElem_cons_succ, List.getElem_cons_zero]
        refine wpAnyH_take (i := 5) (v := ?_) rfl (by kernel_rfl) (by kernel_rfl) (by kernel_rfl) (fun _ _ _ h => h) (Or.inl ⟨by rfl, ?_⟩) (by assumption) ?_
        rotate_left
        · intro w hSw; (try dsimp only at hSw); (try simp only [List.getElem_toArray, List.getElem_cons_succ, List.getElem_cons_zero]); go_simp; try with_reducible rfl
        try simp only [Act.put, List.setIfInBounds_toArray, List.set_cons_zero, List.set_cons_succ, List.getElem_toArray, List.getElem_cons_succ, List.getElem_cons_zero]
        refine wpAnyH_ready (rs := [0, 6]) (by kernel_rfl) (by simp) ?_
        refine AllReadyH.cons rfl (fun K hK => ?_) ?_
        (try simp only [List.getElem_toArray, List.getElem_cons_zero])
        go_simp
        refine hK.out _ _ ?_ (fun hHeld => ?_)
        · first | assumption | with_reducible exact hst.out | (rw [HWj.out]; with_reducible exact hstj.out) | with_reducible exact hS.out _ (Kept.trans (hS2.out _ (by assumption)) (Pure.kept (by assumption))) | with_reducible exact hS.out _ (Kept.trans (hS2.out _ hstj.out) (Pure.kept (by assumption))) | exact hS.out _ (Kept.setCell (Kept.setCell (hS2.out _ (by assumption)) (fun _ => rfl) _) (fun _ => rfl) _)
        clear hK K
        try simp only [Act.put, List.setIfInBounds_toArray, List.set_cons_zero, List.set_cons_succ, List.getElem_toArray, List.getElem_cons_zero]
        refine wpAnyH_ready (rs := [6]) (by kernel_rfl) (by simp) ?_
        refine AllReadyH.cons rfl (fun K hK => ?_) AllReadyH.nil
        (try simp only [List.getElem_toArray, List.getElem_cons_succ, List.getElem_cons_zero])
        go_simp
        refine hK.out _ _ ?_ (fun hHeld => ?_)
        · first | assumption | with_reducible exact hst.out | (rw [HWj.out]; with_reducible exact hstj.out) | with_reducible exact hS.out _ (Kept.trans (hS2.out _ (by assumption)) (Pure.kept (by assumption))) | with_reducible exact hS.out _ (Kept.trans (hS2.out _ hstj.out) (Pure.kept (by assumption))) | exact hS.out _ (Kept.setCell (Kept.setCell (hS2.out _ (by assumption)) (fun _ => rfl) _) (fun _ => rfl) _)
        clear hK K
        try simp only [Act.put, List.setIfInBounds_toArray, List.set_cons_zero, List.set_cons_succ, List.getElem_toArray, List.getElem_cons_succ, List.getElem_cons_zero]
        refine wpAnyH_take (i := 7) (v := ?_) rfl (by kernel_rfl) (by kernel_rfl) (by kernel_rfl) (fun _ _ _ h => h) (Or.inl ⟨by rfl, ?_⟩) (by assumption) ?_
        rotate_left
        · intro w hSw; (try dsimp only at hSw); (try simp only [List.getElem_toArray, List.getElem_cons_succ, List.getElem_cons_zero]); go_simp; try with_reducible rfl
        try simp only [Act.put, List.setIfInBounds_toArray, List.set_cons_zero, List.set_cons_succ, List.getElem_toArray, List.getElem_cons_succ, List.getElem_cons_zero]
        refine wpAnyH_ready (rs := [8]) (by kernel_rfl) (by simp) ?_
        refine AllReadyH.cons rfl (fun K hK => ?_) AllReadyH.nil
        (try simp only [List.getElem_toArray, List.getElem_cons_succ, List.getElem_cons_zero])
        go_simp
        go_at_call 28; rw [HWj.out]; (with_reducible refine hj.out.mono ?_); rintro e w9 ⟨u0, u1, rfl, hd0, hd1, hp9, hf0, hf1⟩; obtain ⟨p0, n0, rfl⟩ := hd0.shape; obtain ⟨p1, n1, rfl⟩ := hd1.shape; have hb9 := hid ((hp9.block _ (lt_of_block hbj.out)).trans hbj.out); have z0 := cell_of_block hb9.out 0; have z1' := cell_of_block hb9.out 1; have z2' := free_of_block hb9.out 0; have z3' := free_of_block hb9.out 1; go_wp2_with fail
        refine hK.out _ _ ?_ (fun hHeld => ?_)
        · first | assumption | with_reducible exact hst.out | (rw [HWj.out]; with_reducible exact hstj.out) | with_reducible exact hS.out _ (Kept.trans (hS2.out _ (by assumption)) (Pure.kept (by assumption))) | with_reducible exact hS.out _ (Kept.trans (hS2.out _ hstj.out) (Pure.kept (by assumption))) | exact hS.out _ (Kept.setCell (Kept.setCell (hS2.out _ (by assumption)) (fun _ => rfl) _) (fun _ => rfl) _)
        clear hK K
        try simp only [Act.put, List.setIfInBounds_toArray, List.set_cons_zero, List.set_cons_succ, List.getElem_toArray, List.getElem_cons_succ, List.getElem_cons_zero]
        refine wpAnyH_ready (rs := [9]) (by kernel_rfl) (by simp) ?_
        refine AllReadyH.cons rfl (fun K hK => ?_) AllReadyH.nil
        (try simp only [List.getElem_toArray, List.getElem_cons_succ, List.getElem_cons_zero])
        go_simp
        refine hK.out _ _ ?_ (fun hHeld => ?_)
        · first | assumption | with_reducible exact hst.out | (rw [HWj.out]; with_reducible exact hstj.out) | with_reducible exact hS.out _ (Kept.trans (hS2.out _ (by assumption)) (Pure.kept (by assumption))) | with_reducible exact hS.out _ (Kept.trans (hS2.out _ hstj.out) (Pure.kept (by assumption))) | exact hS.out _ (Kept.setCell (Kept.setCell (hS2.out _ (by assumption)) (fun _ => rfl) _) (fun _ => rfl) _)
        clear hK K
        try simp only [Act.put, List.getElem_toArray, List.getElem_cons_succ, List.getElem_cons_zero]
        refine wpAnyH_done (by kernel_rfl) ?_ _
        rotate_left
        refine AllReadyH.cons rfl (fun K hK => ?_) AllReadyH.nil
        (try simp only [List.getElem_toArray, List.getElem_cons_succ, List.getElem_cons_zero])
        go_simp
        refine hK.out _ _ ?_ (fun hHeld => ?_)
        · first | assumption | with_reducible exact hst.out | (rw [HWj.out]; with_reducible exact hstj.out) | with_reducible exact hS.out _ (Kept.trans (hS2.out _ (by assumption)) (Pure.kept (by assumption))) | with_reducible exact hS.out _ (Kept.trans (hS2.out _ hstj.out) (Pure.kept (by assumption))) | exact hS.out _ (Kept.setCell (Kept.setCell (hS2.out _ (by assumption)) (fun _ => rfl) _) (fun _ => rfl) _)
        clear hK K
        try simp only [Act.put, List.setIfInBounds_toArray, List.set_cons_zero, List.set_cons_succ, List.getElem_toArray, List.getElem_cons_succ, List.getElem_cons_zero]
        refine wpAnyH_take (i := 7) (v := ?_) rfl (by kernel_rfl) (by kernel_rfl) (by kernel_rfl) (fun _ _ _ h => h) (Or.inl ⟨by rfl, ?_⟩) (by assumption) ?_
        rotate_left
        · intro w hSw; (try dsimp only at hSw); (try simp only [List.getElem_toArray, List.getElem_cons_succ, List.getElem_cons_zero]); go_simp; try with_reducible rfl
        try simp only [Act.put, List.setIfInBounds_toArray, List.set_cons_zero, List.set_cons_succ, List.getElem_toArray, List.getElem_cons_succ, List.getElem_cons_zero]
        refine wpAnyH_ready (rs := [0]) (by kernel_rfl) (by simp) ?_
        refine AllReadyH.cons rfl (fun K hK => ?_) AllReadyH.nil
        (try simp only [List.getElem_toArray, List.getElem_cons_zero])
        go_simp
        refine hK.out _ _ ?_ (fun hHeld => ?_)
        · first | assumption | with_reducible exact hst.out | (rw [HWj.out]; with_reducible exact hstj.out) | with_reducible exact hS.out _ (Kept.trans (hS2.out _ (by assumption)) (Pure.kept (by assumption))) | with_reducible exact hS.out _ (Kept.trans (hS2.out _ hstj.out) (Pure.kept (by assumption))) | exact hS.out _ (Kept.setCell (Kept.setCell (hS2.out _ (by assumption)) (fun _ => rfl) _) (fun _ => rfl) _)
        clear hK K
        try simp only [Act.put, List.setIfInBounds_toArray, List.set_cons_zero, List.set_cons_succ, List.getElem_toArray, List.getElem_cons_zero]
        refine wpAnyH_ready (rs := [8]) (by kernel_rfl) (by simp) ?_
        refine AllReadyH.cons rfl (fun K hK => ?_) AllReadyH.nil
        (try simp only [List.getElem_toArray, List.getElem_cons_succ, List.getElem_cons_zero])
        go_simp
        go_at_call 28; rw [HWj.out]; (with_reducible refine hj.out.mono ?_); rintro e w9 ⟨u0, u1, rfl, hd0, hd1, hp9, hf0, hf1⟩; obtain ⟨p0, n0, rfl⟩ := hd0.shape; obtain ⟨p1, n1, rfl⟩ := hd1.shape; have hb9 := hid ((hp9.block _ (lt_of_block hbj.out)).trans hbj.out); have z0 := cell_of_block hb9.out 0; have z1' := cell_of_block hb9.out 1; have z2' := free_of_block hb9.out 0; have z3' := free_of_block hb9.out 1; go_wp2_with fail
        refine hK.out _ _ ?_ (fun hHeld => ?_)
        · first | assumption | with_reducible exact hst.out | (rw [HWj.out]; with_reducible exact hstj.out) | with_reducible exact hS.out _ (Kept.trans (hS2.out _ (by assumption)) (Pure.kept (by assumption))) | with_reducible exact hS.out _ (Kept.trans (hS2.out _ hstj.out) (Pure.kept (by assumption))) | exact hS.out _ (Kept.setCell (Kept.setCell (hS2.out _ (by assumption)) (fun _ => rfl) _) (fun _ => rfl) _)
        clear hK K
        try simp only [Act.put, List.setIfInBounds_toArray, List.set_cons_zero, List.set_cons_succ, List.getElem_toArray, List.getElem_cons_succ, List.getElem_cons_zero]
        refine wpAnyH_ready (rs := [9]) (by kernel_rfl) (by simp) ?_
        refine AllReadyH.cons rfl (fun K hK => ?_) AllReadyH.nil
        (try simp only [List.getElem_toArray, List.getElem_cons_succ, List.getElem_cons_zero])
        go_simp
        refine hK.out _ _ ?_ (fun hHeld => ?_)
        · first | assumption | with_reducible exact hst.out | (rw [HWj.out]; with_reducible exact hstj.out) | with_reducible exact hS.out _ (Kept.trans (hS2.out _ (by assumption)) (Pure.kept (by assumption))) | with_reducible exact hS.out _ (Kept.trans (hS2.out _ hstj.out) (Pure.kept (by assumption))) | exact hS.out _ (Kept.setCell (Kept.setCell (hS2.out _ (by assumption)) (fun _ => rfl) _) (fun _ => rfl) _)
        clear hK K
        try simp only [Act.put, List.getElem_toArray, List.getElem_cons_succ, List.getElem_cons_zero]
        refine wpAnyH_done (by kernel_rfl) ?_ _
        all_goals
          have hk9 : Kept (fun k => k = w.heap.size + 2) wz w9 := (hS2.out _ hstj.out).trans hp9.kept
          have hge : w.heap.size + 3 ≤ Wj.heap.size := by have := (hS2.out _ hstj.out).size; have := Hsz.out; omega
          have hkf : Kept (fun k => k = w.heap.size + 2) w9 ((w9.setCell ⟨w.heap.size + 1 + 1, 0, none⟩ (.slice p0 (mfold (B.take (k + 1))).1.length n0)).setCell ⟨w.heap.size + 1 + 1, 1, none⟩ (.slice p1 (mfold (B.take (k + 1))).2.length n1)) := (kept_set w9 _ 0 _).trans (kept_set _ _ 1 _)
          have hI' : Hid (MdI w.heap.size wz B C (mfold (B.take (k + 1))) (.slice p0 (mfold (B.take (k + 1))).1.length n0) (.slice p1 (mfold (B.take (k + 1))).2.length n1) ((w9.setCell ⟨w.heap.size + 1 + 1, 0, none⟩ (.slice p0 (mfold (B.take (k + 1))).1.length n0)).setCell ⟨w.heap.size + 1 + 1, 1, none⟩ (.slice p1 (mfold (B.take (k + 1))).2.length n1))) :=
            ⟨by have := block_setCell (block_setCell hb9.out 0 (.slice p0 (mfold (B.take (k + 1))).1.length n0)) 1 (.slice p1 (mfold (B.take (k + 1))).2.length n1); simpa using this,
              Row.kept hd0 hkf (fun j hj e => by have := hf0 j hj; omega), Row.kept hd1 hkf (fun j hj e => by have := hf1 j hj; omega), fun j hj => by have := hf0 j hj; omega, fun j hj => by have := hf1 j hj; omega, hk9.trans hkf⟩
          clear hk9 hkf hd0 hd1 hp9 hf0 hf1 hst hstj hS hS2 hj hb9 hbj z0 z1' z2' z3' t0 t1 t2 t3
          go_wp2
          go_roundw
          (case rel => exact ⟨k + 1, _, _, by omega, by omega, by go_num, hI'.out⟩)
          (case measure => simp [RowKit.intOf]; omega)
    · have hM : mfold (B.take k) = mfold (B.take 12) ∧ (¬ (k : Int) < (B.length : Int) ∨ ((k : Int) < (B.length : Int) ∧ ¬ (k : Int) < 12)) := by
        by_cases h : k < B.length
        · obtain rfl : k = 12 := by omega
          exact ⟨rfl, .inr ⟨by omega, by omega⟩⟩
        · exact ⟨by rw [List.take_of_length_le (show B.length ≤ k by omega), List.take_of_length_le (show B.length ≤ 12 by omega)], .inl (by omega)⟩
      obtain ⟨hM, hor⟩ := hM
      rw [hM] at hI
      have hMk : Hid (COk (mfold (B.take 12)).1 (mfold (B.take 12)).2 ∧ (mfold (B.take 12)).1.length ≤ 12 ∧ (mfold (B.take 12)).2.length = 0) := by
        have h := Hok.out k hk
        rw [hM] at h
        exact ⟨h.1, by omega, h.2.2⟩
      have HI := hid hI
      clear hI hM hlt Hst Hok
      have hmade := hid (show madeC B C = cjoin (mfold (B.take 12)).1 (mfold (B.take 12)).2 [] (dsort ((C.take 12).filter dchk)) from rfl)
      generalize mfold (B.take 12) = M at *
      obtain ⟨W2, hW2⟩ : ∃ W2, W2 = wr := ⟨_, rfl⟩
      subst hW2
      have hd12 : (dsort ((C.take 12).filter dchk)).length ≤ 12 := Nat.le_trans (dsort_len _) (Nat.le_trans (List.length_filter_le _ _) (by rw [List.length_take]; omega))
      rcases hor with hor | ⟨hor1, hor2⟩
      all_goals
        go_wp2_with fail
        go_loopw [6, 7] (fun v i wr => ∃ j : Nat, j ≤ C.length ∧ j ≤ 12 ∧ i = .int .i64 j ∧ wr.ownsRow W2.heap.size 30 2 v (C.take j).length (dvs (C.take j)) ∧ Pure W2 wr) (fun _ i _ => C.length - (RowKit.intOf i).toNat)
        (case atStart => exact ⟨0, Nat.zero_le _, Nat.zero_le _, rfl, World.ownsRow_nil _ _ _ _, Below.refl _ _⟩)
        (case round =>
          clear hk hk12 g0 g1
          obtain ⟨j, hj, hj12, rfl, hown, hp⟩ := hrel
          have hkj := HI.out.k.trans (hp.kept (S := fun k => k = w.heap.size + 2))
          obtain ⟨g0, g1⟩ := hCc.out wr hkj
          have hjl : (C.take j).length = j := by rw [List.length_take]; omega
          rw [hjl] at hown
          by_cases hlt : j < C.length ∧ j < 12
          · obtain ⟨hlt, h12⟩ := hlt
            have hlt' : (j : Int) < (C.length : Int) := by omega
            have h12' : (j : Int) < 12 := by omega
            obtain ⟨b, off, rfl, hb, x0, x1⟩ := Dots.get (HC.out wr hkj) hlt
            have Hts := hid (take_succ_d C j hlt)
            generalize C.getD j (0, 0) = z at *
            obtain ⟨z1, z2⟩ := z
            dsimp only at x0 x1
            have Hown := hid hown
            have Hp := hid hp
            obtain ⟨a3, c3, rfl⟩ := own_shape_d hown
            have b1 : W2.heap.size ≤ (wr.alloc (.cells #[.int .i64 z1, .int .i64 z2] 30)).heap.size := by have := hp.size; simp; omega
            clear hown hp hb hkj
            go_wp2_with (at_builtin; refine wpList_append_dots rfl _ _ rfl W2.heap.size _ (C.take j) j rfl (Hown.out.alloc _) _ [(z1, z2)] 1 rfl (dots_lit wr z1 z2) (by omega) b1 ?_)
            intro v2 w2 hown2 hg2
            have Hown2 := hid hown2
            have Hg2 := hid ((Hp.out.alloc Hp.out.size _).grown hg2 (by have := Hp.out.size; simp; omega) (fun k hk => (Hown.out.lt k hk).1))
            clear hown2 hg2
            go_wp2
            go_roundw
            (case rel => exact ⟨j + 1, by omega, by omega, by go_num, by rw [Hts.out, List.length_append, hjl]; exact Hown2.out, Hg2.out⟩)
            (case measure => simp [RowKit.intOf]; omega)
          · have hM : C.take j = C.take 12 ∧ (¬ (j : Int) < (C.length : Int) ∨ ((j : Int) < (C.length : Int) ∧ ¬ (j : Int) < 12)) := by
              by_cases h : j < C.length
              · obtain rfl : j = 12 := by omega
                exact ⟨rfl, .inr ⟨by omega, by omega⟩⟩
              · exact ⟨by rw [List.take_of_length_le (show C.length ≤ j by omega), List.take_of_length_le (show C.length ≤ 12 by omega)], .inl (by omega)⟩
            obtain ⟨hM, hor'⟩ := hM
            rw [hM] at hown hjl
            have Hrow := hid (show Dots wr u6 (C.take 12) from by unfold Dots; rw [hjl]; exact Row.of_own hown)
            have hkj2 := hid hkj
            have hbj := hid (show wr.heap[w.heap.size + 1 + 1]? = some (.cells #[v0, v1] 24 (0, 0)) from (hp.block _ (lt_of_block HI.out.out)).trans HI.out.out)
            have t0 := cell_of_block hbj.out 0
            have t1 := cell_of_block hbj.out 1
            have hres : wr.heap[w.heap.size + 1]? = some (.cells #[.slice none 0 0, .slice none 0 0] 24 (0, 0)) := (hkj.block _ (lt_of_block hbk.out.2.1) (by omega)).trans hbk.out.2.1
            have hadd := hid (radd_any v0 v1 u6 M.1 M.2 (C.take 12) wr (Row.pure HI.out.r0 hp) (Row.pure HI.out.r1 hp) Hrow.out (by have h1 := hMk.out.2.1; have h2 := hMk.out.2.2; omega) (fun d hd => by have := hMk.out.1.bok d hd; unfold dok at this; omega))
            rw [← hmade.out] at hadd
            have Hres := hid hres
            have Hpw := hid (show Pure w wr from by
              have h2 : Kept (fun k => w.heap.size ≤ k) w wr := Hpz.out.kept.trans (hkj.mono (fun k _ e => by omega))
              exact h2.below (Nat.le_refl _) (fun k hk e => by omega))
            have Hge := hid (show w.heap.size + 3 ≤ wr.heap.size from by have := hkj.size; have := Hsz.out; omega)
            obtain ⟨a3, c3, rfl⟩ := own_shape_d hown
            clear hown hp hkj hres
            rcases hor' with hor' | ⟨hor1', hor2'⟩
            all_goals
              go_wp2_with fail
              refine hadd.out.mono ?_
              rintro e w4 ⟨u0, u1, rfl, hd0, hd1, hp4, hf0, hf1⟩
              have hr4 := (hp4.block _ (lt_of_block Hres.out)).trans Hres.out
              have r0 := cell_of_block hr4 0
              have r1 := cell_of_block hr4 1
              have r2 := free_of_block hr4 0
              have r3 := free_of_block hr4 1
              obtain ⟨p0, k0, rfl⟩ := hd0.shape
              obtain ⟨p1, k1, rfl⟩ := hd1.shape
              obtain ⟨q0, q1, hfin⟩ := ctx_ret (w := w) (B := (madeC B C).1) (C := (madeC B C).2) hr4 (by omega) (Hpw.out.then_ hp4) hd0 hd1 (fun k hk => by have := hf0 k hk; have := Hge.out; omega) (fun k hk => by have := hf1 k hk; have := Hge.out; omega)
              have T0 := hid q0
              have T1 := hid q1
              have Hfin := hid hfin
              clear hd0 hd1 hp4 hf0 hf1 hr4 q0 q1 hfin
              go_wp2
              exact bodyPost_ret (v := .agg #[.slice p0 (madeC B C).1.length k0, .slice p1 (madeC B C).2.length k1]) (by simp [results, Try.results10, go_sem, T0.out, T1.out]) rfl Hfin.out)
end Go.Proofs.Ytimcjkimehhgcaa
