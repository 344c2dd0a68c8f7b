/- ctx.Check, of a context that may be. -/
import Derived.Test.YtdlpnhfgjficgaaGreatMQa
namespace Go.Proofs.YtdlpnhfgjficgaaGreat
open Go.RowKit Go.Maps Go.Shelf Go.Sort

theorem br_get {B : List Dot} (h : BR B) {i j : Nat} (hi : i < j) (hj : j < B.length) : (B.getD i (0, 0)).1 < (B.getD j (0, 0)).1 := by
  have h1 := List.pairwise_iff_getElem.1 h i j (by omega) hj hi
  have e1 : B.getD i (0, 0) = B[i] := by simp [List.getD, show i < B.length by omega]
  have e2 : B.getD j (0, 0) = B[j] := by simp [List.getD, hj]
  rw [e1, e2]; exact h1
set_option maxRecDepth 8000 in
set_option maxHeartbeats 4000000 in
theorem check_any (vb vc : Value) (B C : List Dot) (w : World) (h1 : Dots w vb B) (h2 : Dots w vc C) (hok : COk B C) (hl1 : B.length ≤ 1000) (hl2 : C.length ≤ 1000) :
    Calls Tryz.prog 175 #[cv vb vc] w fun e w' => e = .returned (.int .i64 0) ∧ Pure w w' := by
  obtain ⟨a0, c0, rfl⟩ := h1.shape
  obtain ⟨a1, c1, rfl⟩ := h2.shape
  obtain ⟨wz, hwz⟩ : ∃ wz, wz = w.alloc (.cells #[.slice a0 B.length c0, .slice a1 C.length c1] 32) := ⟨_, rfl⟩
  have Hpz := hid (show Pure w wz from by rw [hwz]; exact (Below.refl _ _).alloc (Nat.le_refl _) _)
  have hbk : Hid (wz.heap[w.heap.size]? = some (.cells #[.slice a0 B.length c0, .slice a1 C.length c1] 32 (0, 0))) := by
    show wz.heap[w.heap.size]? = _
    rw [hwz]
    exact block_alloc_new _ _
  have hC : Hid (∀ W, Pure wz W → (W.cell? ⟨w.heap.size, 0, none⟩ = some (.slice a0 B.length c0) ∧ W.cell? ⟨w.heap.size, 1, none⟩ = some (.slice a1 C.length c1))) := fun W hW => by
    have e0 := (hW.block _ (lt_of_block hbk.out)).trans hbk.out
    exact ⟨cell_of_block e0 0, cell_of_block e0 1⟩
  have HB := hid (fun W (hW : Pure wz W) => (Row.pure h1 (Hpz.out.then_ hW) : Dots W (.slice a0 B.length c0) B))
  have HC := hid (fun W (hW : Pure wz W) => (Row.pure h2 (Hpz.out.then_ hW) : Dots W (.slice a1 C.length c1) C))
  have hr1 := hid (fun W (hW : Pure wz W) => rises_any _ B W (HB.out W hW) (br_rise hok.br) (by omega))
  have hr2 := hid (fun W (hW : Pure wz W) => rises_any _ C W (HC.out W hW) hok.cr (by omega))
  have hck := hid (fun z W => chk_any z W)
  have hup := hid (fun W x (hW : Pure wz W) => upto_any _ (.slice a1 C.length c1) B x W (HB.out W hW) (br_rise hok.br) (fun d hd => by have := hok.bok d hd; unfold dok at this; omega) (by omega))
  have Hok := hid hok
  obtain ⟨g0, g1⟩ := hC.out wz (Below.refl _ _)
  clear h1 h2 hok
  unfold dv cv at *
  go_enter Tryz.func175, Tryz.ntmps175
  go_wp2_with fail
  rw [← hwz]
  clear hwz
  refine (hr1.out wz (Below.refl _ _)).mono ?_
  rintro e w1 ⟨rfl, hp1⟩
  have Hp1 := hid hp1
  obtain ⟨g0, g1⟩ := hC.out w1 hp1
  clear hp1
  go_wp2_with fail
  refine (hr2.out w1 Hp1.out).mono ?_
  rintro e w2 ⟨rfl, hp2⟩
  have Hp2 := hid (Hp1.out.then_ hp2)
  obtain ⟨g0, g1⟩ := hC.out w2 Hp2.out
  clear hp2
  go_wp2_with fail
  go_loopw [20] (fun i wr => ∃ k : Nat, k ≤ B.length ∧ i = .int .i64 k ∧ Pure wz wr) (fun i _ => B.length - (RowKit.intOf i).toNat)
  case atStart => exact ⟨0, Nat.zero_le _, rfl, Hp2.out⟩
  case round =>
    obtain ⟨k, hk, rfl, hp⟩ := hrel
    have Hp := hid hp
    by_cases hlt : k < B.length
    · have hlt' : (k : Int) < (B.length : Int) := by omega
      have Hrow := hid (HB.out wr hp)
      obtain ⟨b, off, rfl, hb, x0, x1⟩ := Dots.get Hrow.out hlt
      obtain ⟨Wd, hWd⟩ : ∃ Wd, Wd = wr.alloc (.cells #[.int .i64 (B.getD k (0, 0)).1, .int .i64 (B.getD k (0, 0)).2] 28) := ⟨_, rfl⟩
      have hpd : Pure wr Wd := by rw [hWd]; exact (Below.refl _ _).alloc (Nat.le_refl _) _
      have hbd : Wd.heap[wr.heap.size]? = some (.cells #[.int .i64 (B.getD k (0, 0)).1, .int .i64 (B.getD k (0, 0)).2] 28 (0, 0)) := by rw [hWd]; exact block_alloc_new _ _
      have hck2 := hid (fun W => hck.out (B.getD k (0, 0)) W)
      rw [dchk_iff.2 (Hok.out.bok _ (getD_mem_d hlt))] at hck2
      by_cases h0 : 0 < k
      · have h0' : (0 : Int) < (k : Int) := by omega
        have hne := hid (br_get Hok.out.br (show k - 1 < k by omega) hlt)
        have hsub : IntKind.i64.wrap ((k : Int) - 1) = ((k - 1 : Nat) : Int) := by rw [IntWalk.i64_in _ (by omega)]; omega
        have hsub2 : (k : Int) - 1 = ((k - 1 : Nat) : Int) := by omega
        have hlt2 : ((k - 1 : Nat) : Int) < (B.length : Int) := by omega
        have hn : (0 : Int) ≤ ((k - 1 : Nat) : Int) := by omega
        have hwm : IntKind.i64.wrap (((k - 1 : Nat) : Nat) : Int) = ((k - 1 : Nat) : Int) := IntWalk.i64_in _ (by omega)
        obtain ⟨b', off', e', hb', y0, y1⟩ := Dots.get Hrow.out (show k - 1 < B.length by omega)
        cases e'
        generalize B.getD k (0, 0) = z at *
        generalize B.getD (k - 1) (0, 0) = y at *
        obtain ⟨z1, z2⟩ := z
        obtain ⟨q1, q2⟩ := y
        dsimp only at x0 x1 y0 y1 hbd hWd hck2 hne
        have hqz : (q1 == z1) = false := by have := hne.out; simp; omega
        have hS : Hid (∀ W, Pure Wd W → (W.cell? ⟨w.heap.size, 0, none⟩ = some (.slice (some ⟨b, off, none⟩) B.length c0) ∧ W.cell? ⟨b, off + (k - 1) * 2, none⟩ = some (.int .i64 q1) ∧ W.cell? ⟨wr.heap.size, 0, none⟩ = some (.int .i64 z1) ∧ W.cell? ⟨wr.heap.size, 1, none⟩ = some (.int .i64 z2) ∧ Pure Wd W)) := fun W hW => by
          have hwb := Pure.then_ hpd hW
          have ed := (hW.block _ (lt_of_block hbd)).trans hbd
          exact ⟨(hC.out W (hp.then_ hwb)).1, (hwb.cell hb').trans y0, cell_of_block ed 0, cell_of_block ed 1, hW⟩
        have hst := hid (hS.out Wd.drew (Below.refl _ _).drew)
        have hS2 : Hid (∀ W : World, (W.cell? ⟨w.heap.size, 0, none⟩ = some (.slice (some ⟨b, off, none⟩) B.length c0) ∧ W.cell? ⟨b, off + (k - 1) * 2, none⟩ = some (.int .i64 q1) ∧ W.cell? ⟨wr.heap.size, 0, none⟩ = some (.int .i64 z1) ∧ W.cell? ⟨wr.heap.size, 1, none⟩ = some (.int .i64 z2) ∧ Pure Wd W) → Pure Wd W) := fun W h => h.2.2.2.2
        have Hpd := hid hpd
        clear hp hb hb' y0 y1 hbd hpd
        generalize hj : k - 1 = j at *
        go_wp2_with fail
        rw [← hWd]
        clear hWd
        first
        | go_region_held3 (fun W => W.cell? ⟨w.heap.size, 0, none⟩ = some (.slice (some ⟨b, off, none⟩) B.length c0) ∧ W.cell? ⟨b, off + j * 2, none⟩ = some (.int .i64 q1) ∧ W.cell? ⟨wr.heap.size, 0, none⟩ = some (.int .i64 z1) ∧ W.cell? ⟨wr.heap.size, 1, none⟩ = some (.int .i64 z2) ∧ Pure Wd W)
            (first | assumption | with_reducible exact hst.out | with_reducible exact hS.out _ (Pure.then_ (hS2.out _ (by assumption)) (by assumption)))
            ((go_at_call 176; (with_reducible refine (hck2.out _).mono ?_); rintro e w7 ⟨rfl, hp7⟩))
        | fail
        have hx := hid (Hp.out.then_ (Pure.then_ Hpd.out (hS2.out w7 (by assumption))))
        clear hp7 hst hS hS2
        go_wp2
        go_roundw
        case rel => exact ⟨k + 1, by omega, by go_num, hx.out⟩
        case measure => simp [RowKit.intOf]; omega
      · have hg : decide ((0 : Int) < (k : Int)) = false := by simp; omega
        generalize B.getD k (0, 0) = z at *
        obtain ⟨z1, z2⟩ := z
        dsimp only at x0 x1 hbd hWd hck2
        have hS : Hid (∀ W, Pure Wd W → (W.cell? ⟨wr.heap.size, 0, none⟩ = some (.int .i64 z1) ∧ W.cell? ⟨wr.heap.size, 1, none⟩ = some (.int .i64 z2) ∧ Pure Wd W)) := fun W hW => by
          have ed := (hW.block _ (lt_of_block hbd)).trans hbd
          exact ⟨cell_of_block ed 0, cell_of_block ed 1, hW⟩
        have hst := hid (hS.out Wd.drew (Below.refl _ _).drew)
        have hS2 : Hid (∀ W : World, (W.cell? ⟨wr.heap.size, 0, none⟩ = some (.int .i64 z1) ∧ W.cell? ⟨wr.heap.size, 1, none⟩ = some (.int .i64 z2) ∧ Pure Wd W) → Pure Wd W) := fun W h => h.2.2
        have Hpd := hid hpd
        clear hp hb hbd hpd
        go_wp2_with fail
        rw [← hWd]
        clear hWd
        refine wp_region_held_drew (S := (fun W => W.cell? ⟨wr.heap.size, 0, none⟩ = some (.int .i64 z1) ∧ W.cell? ⟨wr.heap.size, 1, none⟩ = some (.int .i64 z2) ∧ Pure Wd W)) (by kernel_rfl) ?_ (fun hHeld => ?_)
        · first | assumption | with_reducible exact hst.out | with_reducible exact hS.out _ (Pure.then_ (hS2.out _ (by assumption)) (by assumption))
        refine wpAnyH_take (i := 0) (v := ?_) rfl (by kernel_rfl) (by kernel_rfl) (by kernel_rfl) (fun _ _ _ h => h) (Or.inl ⟨by rfl, ?_⟩) (by assumption) ?_
        rotate_left
        · intro w hSw; (try dsimp only at hSw); (try simp only [List.getElem_toArray, List.getElem_cons_zero]); go_simp; try with_reducible rfl
        try simp only [Act.put, List.setIfInBounds_toArray, List.set_cons_zero, List.set_cons_succ, List.getElem_toArray, List.getElem_cons_zero]
        refine wpAnyH_ready (rs := [1]) (by kernel_rfl) (by simp) ?_
        refine AllReadyH.cons rfl (fun K hK => ?_) AllReadyH.nil
        (try simp only [List.getElem_toArray, List.getElem_cons_succ, List.getElem_cons_zero])
        go_simp
        go_at_call 176; (with_reducible refine (hck2.out _).mono ?_); rintro e w7 ⟨rfl, hp7⟩; go_wp2_with fail
        refine hK.out _ _ ?_ (fun hHeld => ?_)
        · first | assumption | with_reducible exact hst.out | with_reducible exact hS.out _ (Pure.then_ (hS2.out _ (by assumption)) (by assumption))
        clear hK K
        try simp only [Act.put, List.setIfInBounds_toArray, List.set_cons_zero, List.set_cons_succ, List.getElem_toArray, List.getElem_cons_succ, List.getElem_cons_zero]
        refine wpAnyH_take (i := 2) (v := ?_) rfl (by kernel_rfl) (by kernel_rfl) (by kernel_rfl) (fun _ _ _ h => h) (Or.inl ⟨by rfl, ?_⟩) (by assumption) ?_
        rotate_left
        · intro w hSw; (try dsimp only at hSw); (try simp only [List.getElem_toArray, List.getElem_cons_succ, List.getElem_cons_zero]); go_simp; try with_reducible rfl
        try simp only [Act.put, List.setIfInBounds_toArray, List.set_cons_zero, List.set_cons_succ, List.getElem_toArray, List.getElem_cons_succ, List.getElem_cons_zero]
        refine wpAnyH_take (i := 3) (v := ?_) rfl (by kernel_rfl) (by kernel_rfl) (by kernel_rfl) (fun _ _ _ h => h) (Or.inl ⟨by rfl, ?_⟩) (by assumption) ?_
        rotate_left
        · intro w hSw; (try dsimp only at hSw); (try simp only [List.getElem_toArray, List.getElem_cons_succ, List.getElem_cons_zero]); go_simp; try with_reducible rfl
        try simp only [Act.put, List.setIfInBounds_toArray, List.set_cons_zero, List.set_cons_succ, List.getElem_toArray, List.getElem_cons_succ, List.getElem_cons_zero]
        refine wpAnyH_take (i := 4) (v := ?_) rfl (by kernel_rfl) (by kernel_rfl) (by kernel_rfl) (fun _ _ _ h => h) (Or.inl ⟨by rfl, ?_⟩) (by assumption) ?_
        rotate_left
        · intro w hSw; (try dsimp only at hSw); (try simp only [List.getElem_toArray, List.getElem_cons_succ, List.getElem_cons_zero]); go_simp; try with_reducible rfl
        try simp only [Act.put, List.setIfInBounds_toArray, List.set_cons_zero, List.set_cons_succ, List.getElem_toArray, List.getElem_cons_succ, List.getElem_cons_zero]
        refine wpAnyH_take (i := 5) (v := ?_) rfl (by kernel_rfl) (by kernel_rfl) (by kernel_rfl) (fun _ _ _ h => h) (Or.inl ⟨by rfl, ?_⟩) (by assumption) ?_
        rotate_left
        · intro w hSw; (try dsimp only at hSw); (try simp only [List.getElem_toArray, List.getElem_cons_succ, List.getElem_cons_zero]); go_simp; try with_reducible rfl
        try simp only [Act.put, List.setIfInBounds_toArray, List.set_cons_zero, List.set_cons_succ, List.getElem_toArray, List.getElem_cons_succ, List.getElem_cons_zero]
        refine wpAnyH_take (i := 6) (v := ?_) rfl (by kernel_rfl) (by kernel_rfl) (by kernel_rfl) (fun _ _ _ h => h) (Or.inl ⟨by rfl, ?_⟩) (by assumption) ?_
        rotate_left
        · intro w hSw; (try dsimp only at hSw); (try simp only [List.getElem_toArray, List.getElem_cons_succ, List.getElem_cons_zero]); go_simp; try with_reducible rfl
        try simp only [Act.put, List.setIfInBounds_toArray, List.set_cons_zero, List.set_cons_succ, List.getElem_toArray, List.getElem_cons_succ, List.getElem_cons_zero]
        refine wpAnyH_take (i := 7) (v := undef) rfl (by kernel_rfl) (by kernel_rfl) (by kernel_rfl) (fun _ _ _ h => h) (Or.inr ⟨by rfl, rfl⟩) (by assumption) ?_
        try simp only [Act.put, List.setIfInBounds_toArray, List.set_cons_zero, List.set_cons_succ, List.getElem_toArray, List.getElem_cons_succ, List.getElem_cons_zero]
        refine wpAnyH_take (i := 8) (v := undef) rfl (by kernel_rfl) (by kernel_rfl) (by kernel_rfl) (fun _ _ _ h => h) (Or.inr ⟨by rfl, rfl⟩) (by assumption) ?_
        try simp only [Act.put, List.setIfInBounds_toArray, List.set_cons_zero, List.set_cons_succ, List.getElem_toArray, List.getElem_cons_succ, List.getElem_cons_zero]
        refine wpAnyH_take (i := 9) (v := undef) rfl (by kernel_rfl) (by kernel_rfl) (by kernel_rfl) (fun _ _ _ h => h) (Or.inr ⟨by rfl, rfl⟩) (by assumption) ?_
        try simp only [Act.put, List.setIfInBounds_toArray, List.set_cons_zero, List.set_cons_succ, List.getElem_toArray, List.getElem_cons_succ, List.getElem_cons_zero]
        refine wpAnyH_take (i := 10) (v := undef) rfl (by kernel_rfl) (by kernel_rfl) (by kernel_rfl) (fun _ _ _ h => h) (Or.inr ⟨by rfl, rfl⟩) (by assumption) ?_
        try simp only [Act.put, List.setIfInBounds_toArray, List.set_cons_zero, List.set_cons_succ, List.getElem_toArray, List.getElem_cons_succ, List.getElem_cons_zero]
        refine wpAnyH_take (i := 11) (v := undef) rfl (by kernel_rfl) (by kernel_rfl) (by kernel_rfl) (fun _ _ _ h => h) (Or.inr ⟨by rfl, rfl⟩) (by assumption) ?_
        try simp only [Act.put, List.setIfInBounds_toArray, List.set_cons_zero, List.set_cons_succ, List.getElem_toArray, List.getElem_cons_succ, List.getElem_cons_zero]
        refine wpAnyH_take (i := 12) (v := undef) rfl (by kernel_rfl) (by kernel_rfl) (by kernel_rfl) (fun _ _ _ h => h) (Or.inr ⟨by rfl, rfl⟩) (by assumption) ?_
        try simp only [Act.put, List.setIfInBounds_toArray, List.set_cons_zero, List.set_cons_succ, List.getElem_toArray, List.getElem_cons_succ, List.getElem_cons_zero]
        refine wpAnyH_take (i := 13) (v := undef) rfl (by kernel_rfl) (by kernel_rfl) (by kernel_rfl) (fun _ _ _ h => h) (Or.inr ⟨by rfl, rfl⟩) (by assumption) ?_
        try simp only [Act.put, List.setIfInBounds_toArray, List.set_cons_zero, List.set_cons_succ, List.getElem_toArray, List.getElem_cons_succ, List.getElem_cons_zero]
        refine wpAnyH_take (i := 14) (v := undef) rfl (by kernel_rfl) (by kernel_rfl) (by kernel_rfl) (fun _ _ _ h => h) (Or.inr ⟨by rfl, rfl⟩) (by assumption) ?_
        try simp only [Act.put, List.setIfInBounds_toArray, List.set_cons_zero, List.set_cons_succ, List.getElem_toArray, List.getElem_cons_succ, List.getElem_cons_zero]
        refine wpAnyH_take (i := 15) (v := undef) rfl (by kernel_rfl) (by kernel_rfl) (by kernel_rfl) (fun _ _ _ h => h) (Or.inr ⟨by rfl, rfl⟩) (by assumption) ?_
        try simp only [Act.put, List.setIfInBounds_toArray, List.set_cons_zero, List.set_cons_succ, List.getElem_toArray, List.getElem_cons_succ, List.getElem_cons_zero]
        refine wpAnyH_take (i := 16) (v := undef) rfl (by kernel_rfl) (by kernel_rfl) (by kernel_rfl) (fun _ _ _ h => h) (Or.inr ⟨by rfl, rfl⟩) (by assumption) ?_
        try simp only [Act.put, List.setIfInBounds_toArray, List.set_cons_zero, List.set_cons_succ, List.getElem_toArray, List.getElem_cons_succ, List.getElem_cons_zero]
        refine wpAnyH_take (i := 17) (v := ?_) rfl (by kernel_rfl) (by kernel_rfl) (by kernel_rfl) (fun _ _ _ h => h) (Or.inl ⟨by rfl, ?_⟩) (by assumption) ?_
        rotate_left
        · intro w hSw; (try dsimp only at hSw); (try simp only [List.getElem_toArray, List.getElem_cons_succ, List.getElem_cons_zero]); go_simp; try with_reducible rfl
        try simp only [Act.put, List.setIfInBounds_toArray, List.set_cons_zero, List.set_cons_succ, List.getElem_toArray, List.getElem_cons_succ, List.getElem_cons_zero]
        refine wpAnyH_take (i := 18) (v := ?_) rfl (by kernel_rfl) (by kernel_rfl) (by kernel_rfl) (fun _ _ _ h => h) (Or.inl ⟨by rfl, ?_⟩) (by assumption) ?_
        rotate_left
        · intro w hSw; (try dsimp only at hSw); (try simp only [List.getElem_toArray, List.getElem_cons_succ, List.getElem_cons_zero]); go_simp; try with_reducible rfl
        try simp only [Act.put, List.setIfInBounds_toArray, List.set_cons_zero, List.set_cons_succ, List.getElem_toArray, List.getElem_cons_succ, List.getElem_cons_zero]
        refine wpAnyH_done (by kernel_rfl) ?_ _
        have hx := hid (Hp.out.then_ (Pure.then_ Hpd.out (hS2.out w7 (by assumption))))
        clear hp7 hst hS hS2
        go_wp2
        go_roundw
        case rel => exact ⟨k + 1, by omega, by go_num, hx.out⟩
        case measure => simp [RowKit.intOf]; omega
    · obtain rfl : k = B.length := by omega
      have hlt' : ¬ (B.length : Int) < (B.length : Int) := by omega
      obtain ⟨g0, g1⟩ := hC.out wr hp
      clear hp
      go_wp2_with fail
      go_loopw [48] (fun i wr => ∃ k : Nat, k ≤ C.length ∧ i = .int .i64 k ∧ Pure wz wr) (fun i _ => C.length - (RowKit.intOf i).toNat)
      case atStart => exact ⟨0, Nat.zero_le _, rfl, Hp.out⟩
      case round =>
        clear Hp g0 g1 hk hlt hlt'
        obtain ⟨k, hk, rfl, hp⟩ := hrel
        have Hp := hid hp
        by_cases hlt : k < C.length
        · have hlt' : (k : Int) < (C.length : Int) := by omega
          have Hrow := hid (HC.out wr hp)
          obtain ⟨b, off, rfl, hb, x0, x1⟩ := Dots.get Hrow.out hlt
          obtain ⟨Wd, hWd⟩ : ∃ Wd, Wd = wr.alloc (.cells #[.int .i64 (C.getD k (0, 0)).1, .int .i64 (C.getD k (0, 0)).2] 28) := ⟨_, rfl⟩
          have hpd : Pure wr Wd := by rw [hWd]; exact (Below.refl _ _).alloc (Nat.le_refl _) _
          have hbd : Wd.heap[wr.heap.size]? = some (.cells #[.int .i64 (C.getD k (0, 0)).1, .int .i64 (C.getD k (0, 0)).2] 28 (0, 0)) := by rw [hWd]; exact block_alloc_new _ _
          have hck2 := hid (fun W => hck.out (C.getD k (0, 0)) W)
          rw [dchk_iff.2 (Hok.out.cok _ (getD_mem_d hlt))] at hck2
          have hfar := Hok.out.far _ (getD_mem_d hlt)
          obtain ⟨n0, n1⟩ := cbase_bds Hok.out.bok (C.getD k (0, 0)).1
          have hup2 := hid (fun W (hW : Pure wz W) => hup.out W (C.getD k (0, 0)).1 hW)
          generalize cbase B (C.getD k (0, 0)).1 = n at *
          generalize C.getD k (0, 0) = z at *
          obtain ⟨z1, z2⟩ := z
          dsimp only at x0 x1 hbd hWd hck2 hfar hup2
          have hnle : ¬ z2 ≤ n + 1 := by omega
          have hwn : IntKind.i64.wrap (n + 1) = n + 1 := IntWalk.i64_in _ (by omega)
          have hS : Hid (∀ W, Pure Wd W → (W.cell? ⟨w.heap.size, 0, none⟩ = some (.slice a0 B.length c0) ∧ W.cell? ⟨w.heap.size, 1, none⟩ = some (.slice (some ⟨b, off, none⟩) C.length c1) ∧ W.cell? ⟨wr.heap.size, 0, none⟩ = some (.int .i64 z1) ∧ W.cell? ⟨wr.heap.size, 1, none⟩ = some (.int .i64 z2) ∧ Pure Wd W)) := fun W hW => by
            have hwb := Pure.then_ hpd hW
            have ed := (hW.block _ (lt_of_block hbd)).trans hbd
            exact ⟨(hC.out W (hp.then_ hwb)).1, (hC.out W (hp.then_ hwb)).2, cell_of_block ed 0, cell_of_block ed 1, hW⟩
          have hst := hid (hS.out Wd.drew (Below.refl _ _).drew)
          have hS2 : Hid (∀ W : World, (W.cell? ⟨w.heap.size, 0, none⟩ = some (.slice a0 B.length c0) ∧ W.cell? ⟨w.heap.size, 1, none⟩ = some (.slice (some ⟨b, off, none⟩) C.length c1) ∧ W.cell? ⟨wr.heap.size, 0, none⟩ = some (.int .i64 z1) ∧ W.cell? ⟨wr.heap.size, 1, none⟩ = some (.int .i64 z2) ∧ Pure Wd W) → Pure Wd W) := fun W h => h.2.2.2.2
          have Hpd := hid hpd
          have Hpz2 := hid (fun W (hW : Pure Wd W) => (Hp.out.then_ hpd).then_ hW)
          clear hp hb hbd hpd
          go_wp2_with fail
          rw [← hWd]
          clear hWd
          first
          | go_region_held3 (fun W => W.cell? ⟨w.heap.size, 0, none⟩ = some (.slice a0 B.length c0) ∧ W.cell? ⟨w.heap.size, 1, none⟩ = some (.slice (some ⟨b, off, none⟩) C.length c1) ∧ W.cell? ⟨wr.heap.size, 0, none⟩ = some (.int .i64 z1) ∧ W.cell? ⟨wr.heap.size, 1, none⟩ = some (.int .i64 z2) ∧ Pure Wd W)
              (first | assumption | with_reducible exact hst.out | with_reducible exact hS.out _ (Pure.then_ (hS2.out _ (by assumption)) (by assumption)))
              ((first | (go_at_call 176; (with_reducible refine (hck2.out _).mono ?_); rintro e w7 ⟨rfl, hp7⟩) | (go_at_call 183; (with_reducible refine (hup2.out _ (Hpz2.out _ (hS2.out _ (by assumption)))).mono ?_); rintro e w8 ⟨rfl, hp8⟩)))
          | fail
          all_goals
            have hx := hid (Hpz2.out _ (hS2.out w8 (by assumption)))
            clear hp7 hp8 hst hS hS2
            go_wp2
            go_roundw
            (case rel => exact ⟨k + 1, by omega, by go_num, hx.out⟩)
            (case measure => simp [RowKit.intOf]; omega)
        · obtain rfl : k = C.length := by omega
          have hlt' : ¬ (C.length : Int) < (C.length : Int) := by omega
          clear hp
          go_wp2
          go_ret
          exact ⟨rfl, Hpz.out.then_ Hp.out⟩
end Go.Proofs.YtdlpnhfgjficgaaGreat
