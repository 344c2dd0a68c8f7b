/- Promises checked. hold.Read. -/
import Derived.Test.YtdlpnhfgjficgaaGreatMBs
import Derived.Test.YtdlpnhfgjficgaaGreatMVv
import Derived.Test.YtdlpnhfgjficgaaGreatMTx
import Derived.Test.YtdlpnhfgjficgaaGreatMRg
import Derived.WalkMore
import Derived.IntWalk
import Derived.Deep.RegionHeld3
namespace Go.Proofs.YtdlpnhfgjficgaaGreat
open Go.RowKit Go.Maps Go.Shelf

theorem receipt_any (n : Int) (w : World) : Calls Tryz.prog 198 #[.int .i64 n] w fun e w' => e = .returned (.bool (decide (1 ≤ n) && decide (n ≤ 1099511627776))) ∧ Pure w w' := by
  by_cases h : 1 ≤ n
  · have h' : n ≥ 1 := h
    go_enter Tryz.func198, Tryz.ntmps198
    go_wp2
    go_ret
    exact ⟨ret_bool (by simp [h]), Below.refl _ _⟩
  · have h' : ¬ n ≥ 1 := h
    go_enter Tryz.func198, Tryz.ntmps198
    go_wp2
    go_ret
    exact ⟨ret_bool (by simp; omega), Below.refl _ _⟩
theorem time_any (n : Int) (w : World) : Calls Tryz.prog 199 #[.int .i64 n] w fun e w' => e = .returned (.bool (decide (1 ≤ n) && decide (n ≤ 1125899906842624))) ∧ Pure w w' := by
  by_cases h : 1 ≤ n
  · have h' : n ≥ 1 := h
    go_enter Tryz.func199, Tryz.ntmps199
    go_wp2
    go_ret
    exact ⟨ret_bool (by simp [h]), Below.refl _ _⟩
  · have h' : ¬ n ≥ 1 := h
    go_enter Tryz.func199, Tryz.ntmps199
    go_wp2
    go_ret
    exact ⟨ret_bool (by simp; omega), Below.refl _ _⟩
theorem hmay_of (h : Hold) : hmay h = (dchk h.1 && ((decide (1 ≤ h.2.1) && decide (h.2.1 ≤ 1099511627776)) && (decide (1 ≤ h.2.2) && decide (h.2.2 ≤ 1125899906842624)))) := by
  unfold hmay; simp only [Bool.and_assoc]
set_option maxRecDepth 8000 in
set_option maxHeartbeats 8000000 in
theorem hchk_any (v : Value) (l : List Hold) (w : World) (hr : Holds w v l) (hl : l.length ≤ 100000) :
    Calls Tryz.prog 157 #[v] w fun e w' => e = .returned (.int .i64 (er1 (hchk l))) ∧ Pure w w' := by
  obtain ⟨a, cap, rfl⟩ := hr.shape
  obtain ⟨C, hC⟩ : ∃ C, C = hchk l := ⟨_, rfl⟩
  rw [← hC]
  by_cases h100 : l.length ≤ 1000
  · have HB := hid (show ∀ k, k < l.length → hat l k = false → C = false from fun k h e => by rw [hC]; unfold hchk; rw [allB_false h e, Bool.and_false])
    have HE := hid (show allB l.length (hat l) = true → C = true from fun h => by rw [hC]; unfold hchk; rw [h, decide_eq_true h100]; rfl)
    have Hr := hid hr
    have h100' : ¬ (l.length : Int) > 1000 := by omega
    clear hr hC
    go_enter Tryz.func157, Tryz.ntmps157
    go_wp2_with fail
    go_step3
    go_wp2_with fail
    go_step3
    go_wp2_with fail
    go_loopw [3, 11] (fun g i wr => ∃ k : Nat, k ≤ l.length ∧ g = .bool true ∧ i = .int .i64 k ∧ allB k (hat l) = true ∧ Pure w wr) (fun _ i _ => l.length - (RowKit.intOf i).toNat)
    case atStart => exact ⟨0, Nat.zero_le _, rfl, rfl, rfl, Below.refl _ _⟩
    case round =>
      obtain ⟨k, hk, rfl, rfl, hal, hp⟩ := hrel
      have Hal := hid hal
      have Hp := hid hp
      clear hal
      by_cases hlt : k < l.length
      · have hlt' : (k : Int) < (l.length : Int) := by omega
        have hk0 : (0 : Int) ≤ (k : Int) := by omega
        have Hrow := hid (show Holds wr (.slice a l.length cap) l from Row.pure Hr.out hp)
        obtain ⟨b, off, rfl, hb, x0, x1, x2, x3⟩ := Holds.get Hrow.out hlt
        have Hno := hid (fun (e : hat l k = false) => HB.out k hlt e)
        have Hyes := hid (fun (e : hat l k = true) => allB_next Hal.out e)
        have Htat := hid (show hat l k = ((dchk (l.getD k h0).1 && ((decide (1 ≤ (l.getD k h0).2.1) && decide ((l.getD k h0).2.1 ≤ 1099511627776)) && (decide (1 ≤ (l.getD k h0).2.2) && decide ((l.getD k h0).2.2 ≤ 1125899906842624)))) && (decide (k = 0) || dlt (l.getD (k - 1) h0).1 (l.getD k h0).1)) from by rw [← hmay_of]; rfl)
        have hprev := hid (fun (h0' : 0 < k) => (show wr.cell? ⟨b, off + (k - 1) * 4, none⟩ = some (.int .i64 (l.getD (k - 1) h0).1.1) ∧ wr.cell? ⟨b, off + (k - 1) * 4 + 1, none⟩ = some (.int .i64 (l.getD (k - 1) h0).1.2) from by
          obtain ⟨b', off', e', _, y0, y1, _, _⟩ := Holds.get Hrow.out (show k - 1 < l.length by omega)
          cases e'; exact ⟨y0, y1⟩))
        have hd1 := hid (chk_any (l.getD k h0).1)
        have hd2 := hid (receipt_any (l.getD k h0).2.1)
        have hd3 := hid (time_any (l.getD k h0).2.2)
        have hd4 := hid (less_any (l.getD (k - 1) h0).1 (l.getD k h0).1)
        generalize l.getD (k - 1) h0 = y at *
        generalize l.getD k h0 = z at *
        obtain ⟨⟨z1, z2⟩, zr, zu⟩ := z
        obtain ⟨⟨y1, y2⟩, yr, yu⟩ := y
        unfold dv at hd1 hd4
        dsimp only at x0 x1 x2 x3 Htat hprev hd1 hd2 hd3 hd4
        obtain ⟨Wd, hWd⟩ : ∃ Wd, Wd = wr.alloc (.cells #[.int .i64 z1, .int .i64 z2, .int .i64 zr, .int .i64 zu] 94) := ⟨_, rfl⟩
        have Hpd := hid (show Pure wr Wd from by rw [hWd]; exact (Below.refl _ _).alloc (Nat.le_refl _) _)
        have Hbd := hid (show Wd.heap[wr.heap.size]? = some (.cells #[.int .i64 z1, .int .i64 z2, .int .i64 zr, .int .i64 zu] 94 (0, 0)) from by rw [hWd]; exact block_alloc_new _ _)
        have Hwb := hid (fun W (hW : Pure Wd W) => (Pure.then_ Hpd.out hW).cell (p := ⟨b, off + (k - 1) * 4, none⟩) hb)
        have Hwb2 := hid (fun W (hW : Pure Wd W) => (Pure.then_ Hpd.out hW).cell (p := ⟨b, off + (k - 1) * 4 + 1, none⟩) hb)
        clear hp
        generalize dchk (z1, z2) = D1 at *
        generalize (decide (1 ≤ zr) && decide (zr ≤ 1099511627776)) = D2 at *
        generalize (decide (1 ≤ zu) && decide (zu ≤ 1125899906842624)) = D3 at *
        generalize dlt (y1, y2) (z1, z2) = D4 at *
        cases D1 with
        | false =>
          have HF := hid (Hno.out (by rw [Htat.out]; rfl))
          clear Hyes Hno Htat hprev hd4
          have hS : Hid (∀ W, Pure Wd W → (W.cell? ⟨wr.heap.size, 0, none⟩ = some (.int .i64 z1) ∧ W.cell? ⟨wr.heap.size, 1, none⟩ = some (.int .i64 z2) ∧ W.cell? ⟨wr.heap.size, 2, none⟩ = some (.int .i64 zr) ∧ W.cell? ⟨wr.heap.size, 3, none⟩ = some (.int .i64 zu) ∧ Pure Wd W)) := fun W hW => by
            have ed := (hW.block _ (lt_of_block Hbd.out)).trans Hbd.out
            exact ⟨cell_of_block ed 0, cell_of_block ed 1, cell_of_block ed 2, cell_of_block ed 3, hW⟩
          have hst := hid (hS.out Wd.drew (Below.refl _ _).drew)
          have hS2 : Hid (∀ W : World, (W.cell? ⟨wr.heap.size, 0, none⟩ = some (.int .i64 z1) ∧ W.cell? ⟨wr.heap.size, 1, none⟩ = some (.int .i64 z2) ∧ W.cell? ⟨wr.heap.size, 2, none⟩ = some (.int .i64 zr) ∧ W.cell? ⟨wr.heap.size, 3, none⟩ = some (.int .i64 zu) ∧ Pure Wd W) → Pure Wd W) := fun W h => h.2.2.2.2
          go_wp2_with fail
          rw [← hWd]
          clear hWd x0 x1 x2 x3
          refine wp_region_held_drew (S := (fun W => W.cell? ⟨wr.heap.size, 0, none⟩ = some (.int .i64 z1) ∧ W.cell? ⟨wr.heap.size, 1, none⟩ = some (.int .i64 z2) ∧ W.cell? ⟨wr.heap.size, 2, none⟩ = some (.int .i64 zr) ∧ W.cell? ⟨wr.heap.size, 3, none⟩ = some (.int .i64 zu) ∧ Pure Wd W)) (by kernel_rfl) ?_ (fun hHeld => ?_)
          · first | assumption | with_reducible exact hst.out | with_reducible exact hS.out _ (Pure.then_ (hS2.out _ (by assumption)) (by assumption))
          refine tkA 0 ?_
          refine tkA 1 ?_
          refine wpAnyH_ready (rs := [2]) (by kernel_rfl) (by simp) ?_
          refine AllReadyH.cons rfl (fun K hK => ?_) AllReadyH.nil
          (try simp only [List.getElem_toArray, List.getElem_cons_succ, List.getElem_cons_zero])
          go_simp
          go_at_call 176; (with_reducible refine (hd1.out _).mono ?_); rintro e w7 ⟨rfl, hp7⟩; go_wp2_with fail
          refine hK.out _ _ ?_ (fun hHeld => ?_)
          · first | assumption | with_reducible exact hst.out | with_reducible exact hS.out _ (Pure.then_ (hS2.out _ (by assumption)) (by assumption))
          clear hK K
          try simp only [Act.put, List.setIfInBounds_toArray, List.set_cons_zero, List.set_cons_succ, List.getElem_toArray, List.getElem_cons_succ, List.getElem_cons_zero]
          refine tkA 3 ?_
          refine tkU 4 ?_
          refine tkU 5 ?_
          refine tkU 6 ?_
          refine tkA 7 ?_
          refine tkA 8 ?_
          refine tkU 9 ?_
          refine tkU 10 ?_
          refine tkU 11 ?_
          refine tkA 12 ?_
          refine tkA 13 ?_
          refine tkU 14 ?_
          refine tkU 15 ?_
          refine tkU 16 ?_
          refine tkU 17 ?_
          refine tkU 18 ?_
          refine tkU 19 ?_
          refine tkU 20 ?_
          refine tkU 21 ?_
          refine tkU 22 ?_
          refine tkU 23 ?_
          refine tkU 24 ?_
          refine tkU 25 ?_
          refine tkU 26 ?_
          refine tkA 27 ?_
          refine tkA 28 ?_
          refine wpAnyH_done (by kernel_rfl) ?_ _
          have hx := hid (hS2.out w7 (by assumption))
          go_wp2
          rw [Exit.noGoto_ret]
          go_ret
          exact ⟨by rw [HF.out]; rfl, Hp.out.then_ (Pure.then_ Hpd.out hx.out)⟩
        | true =>
        cases D2 with
        | false =>
          have HF := hid (Hno.out (by rw [Htat.out]; rfl))
          clear Hyes Hno Htat hprev hd4
          have hS : Hid (∀ W, Pure Wd W → (W.cell? ⟨wr.heap.size, 0, none⟩ = some (.int .i64 z1) ∧ W.cell? ⟨wr.heap.size, 1, none⟩ = some (.int .i64 z2) ∧ W.cell? ⟨wr.heap.size, 2, none⟩ = some (.int .i64 zr) ∧ W.cell? ⟨wr.heap.size, 3, none⟩ = some (.int .i64 zu) ∧ Pure Wd W)) := fun W hW => by
            have ed := (hW.block _ (lt_of_block Hbd.out)).trans Hbd.out
            exact ⟨cell_of_block ed 0, cell_of_block ed 1, cell_of_block ed 2, cell_of_block ed 3, hW⟩
          have hst := hid (hS.out Wd.drew (Below.refl _ _).drew)
          have hS2 : Hid (∀ W : World, (W.cell? ⟨wr.heap.size, 0, none⟩ = some (.int .i64 z1) ∧ W.cell? ⟨wr.heap.size, 1, none⟩ = some (.int .i64 z2) ∧ W.cell? ⟨wr.heap.size, 2, none⟩ = some (.int .i64 zr) ∧ W.cell? ⟨wr.heap.size, 3, none⟩ = some (.int .i64 zu) ∧ Pure Wd W) → Pure Wd W) := fun W h => h.2.2.2.2
          go_wp2_with fail
          rw [← hWd]
          clear hWd x0 x1 x2 x3
          refine wp_region_held_drew (S := (fun W => W.cell? ⟨wr.heap.size, 0, none⟩ = some (.int .i64 z1) ∧ W.cell? ⟨wr.heap.size, 1, none⟩ = some (.int .i64 z2) ∧ W.cell? ⟨wr.heap.size, 2, none⟩ = some (.int .i64 zr) ∧ W.cell? ⟨wr.heap.size, 3, none⟩ = some (.int .i64 zu) ∧ Pure Wd W)) (by kernel_rfl) ?_ (fun hHeld => ?_)
          · first | assumption | with_reducible exact hst.out | with_reducible exact hS.out _ (Pure.then_ (hS2.out _ (by assumption)) (by assumption))
          refine tkA 0 ?_
          refine tkA 1 ?_
          refine wpAnyH_ready (rs := [2]) (by kernel_rfl) (by simp) ?_
          refine AllReadyH.cons rfl (fun K hK => ?_) AllReadyH.nil
          (try simp only [List.getElem_toArray, List.getElem_cons_succ, List.getElem_cons_zero])
          go_simp
          go_at_call 176; (with_reducible refine (hd1.out _).mono ?_); rintro e w7 ⟨rfl, hp7⟩; go_wp2_with fail
          refine hK.out _ _ ?_ (fun hHeld => ?_)
          · first | assumption | with_reducible exact hst.out | with_reducible exact hS.out _ (Pure.then_ (hS2.out _ (by assumption)) (by assumption))
          clear hK K
          try simp only [Act.put, List.setIfInBounds_toArray, List.set_cons_zero, List.set_cons_succ, List.getElem_toArray, List.getElem_cons_succ, List.getElem_cons_zero]
          refine tkA 3 ?_
          refine tkA 4 ?_
          refine tkA 5 ?_
          refine wpAnyH_ready (rs := [6]) (by kernel_rfl) (by simp) ?_
          refine AllReadyH.cons rfl (fun K hK => ?_) AllReadyH.nil
          (try simp only [List.getElem_toArray, List.getElem_cons_succ, List.getElem_cons_zero])
          go_simp
          go_at_call 198; (with_reducible refine (hd2.out _).mono ?_); rintro e w8 ⟨rfl, hp8⟩; go_wp2_with fail
          refine hK.out _ _ ?_ (fun hHeld => ?_)
          · first | assumption | with_reducible exact hst.out | with_reducible exact hS.out _ (Pure.then_ (hS2.out _ (by assumption)) (by assumption))
          clear hK K
          try simp only [Act.put, List.setIfInBounds_toArray, List.set_cons_zero, List.set_cons_succ, List.getElem_toArray, List.getElem_cons_succ, List.getElem_cons_zero]
          refine tkA 7 ?_
          refine tkA 8 ?_
          refine tkU 9 ?_
          refine tkU 10 ?_
          refine tkU 11 ?_
          refine tkA 12 ?_
          refine tkA 13 ?_
          refine tkU 14 ?_
          refine tkU 15 ?_
          refine tkU 16 ?_
          refine tkU 17 ?_
          refine tkU 18 ?_
          refine tkU 19 ?_
          refine tkU 20 ?_
          refine tkU 21 ?_
          refine tkU 22 ?_
          refine tkU 23 ?_
          refine tkU 24 ?_
          refine tkU 25 ?_
          refine tkU 26 ?_
          refine tkA 27 ?_
          refine tkA 28 ?_
          refine wpAnyH_done (by kernel_rfl) ?_ _
          have hx := hid (hS2.out w8 (by assumption))
          go_wp2
          rw [Exit.noGoto_ret]
          go_ret
          exact ⟨by rw [HF.out]; rfl, Hp.out.then_ (Pure.then_ Hpd.out hx.out)⟩
        | true =>
        cases D3 with
        | false =>
          have HF := hid (Hno.out (by rw [Htat.out]; rfl))
          clear Hyes Hno Htat hprev hd4
          have hS : Hid (∀ W, Pure Wd W → (W.cell? ⟨wr.heap.size, 0, none⟩ = some (.int .i64 z1) ∧ W.cell? ⟨wr.heap.size, 1, none⟩ = some (.int .i64 z2) ∧ W.cell? ⟨wr.heap.size, 2, none⟩ = some (.int .i64 zr) ∧ W.cell? ⟨wr.heap.size, 3, none⟩ = some (.int .i64 zu) ∧ Pure Wd W)) := fun W hW => by
            have ed := (hW.block _ (lt_of_block Hbd.out)).trans Hbd.out
            exact ⟨cell_of_block ed 0, cell_of_block ed 1, cell_of_block ed 2, cell_of_block ed 3, hW⟩
          have hst := hid (hS.out Wd.drew (Below.refl _ _).drew)
          have hS2 : Hid (∀ W : World, (W.cell? ⟨wr.heap.size, 0, none⟩ = some (.int .i64 z1) ∧ W.cell? ⟨wr.heap.size, 1, none⟩ = some (.int .i64 z2) ∧ W.cell? ⟨wr.heap.size, 2, none⟩ = some (.int .i64 zr) ∧ W.cell? ⟨wr.heap.size, 3, none⟩ = some (.int .i64 zu) ∧ Pure Wd W) → Pure Wd W) := fun W h => h.2.2.2.2
          go_wp2_with fail
          rw [← hWd]
          clear hWd x0 x1 x2 x3
          refine wp_region_held_drew (S := (fun W => W.cell? ⟨wr.heap.size, 0, none⟩ = some (.int .i64 z1) ∧ W.cell? ⟨wr.heap.size, 1, none⟩ = some (.int .i64 z2) ∧ W.cell? ⟨wr.heap.size, 2, none⟩ = some (.int .i64 zr) ∧ W.cell? ⟨wr.heap.size, 3, none⟩ = some (.int .i64 zu) ∧ Pure Wd W)) (by kernel_rfl) ?_ (fun hHeld => ?_)
          · first | assumption | with_reducible exact hst.out | with_reducible exact hS.out _ (Pure.then_ (hS2.out _ (by assumption)) (by assumption))
          refine tkA 0 ?_
          refine tkA 1 ?_
          refine wpAnyH_ready (rs := [2]) (by kernel_rfl) (by simp) ?_
          refine AllReadyH.cons rfl (fun K hK => ?_) AllReadyH.nil
          (try simp only [List.getElem_toArray, List.getElem_cons_succ, List.getElem_cons_zero])
          go_simp
          go_at_call 176; (with_reducible refine (hd1.out _).mono ?_); rintro e w7 ⟨rfl, hp7⟩; go_wp2_with fail
          refine hK.out _ _ ?_ (fun hHeld => ?_)
          · first | assumption | with_reducible exact hst.out | with_reducible exact hS.out _ (Pure.then_ (hS2.out _ (by assumption)) (by assumption))
          clear hK K
          try simp only [Act.put, List.setIfInBounds_toArray, List.set_cons_zero, List.set_cons_succ, List.getElem_toArray, List.getElem_cons_succ, List.getElem_cons_zero]
          refine tkA 3 ?_
          refine tkA 4 ?_
          refine tkA 5 ?_
          refine wpAnyH_ready (rs := [6]) (by kernel_rfl) (by simp) ?_
          refine AllReadyH.cons rfl (fun K hK => ?_) AllReadyH.nil
          (try simp only [List.getElem_toArray, List.getElem_cons_succ, List.getElem_cons_zero])
          go_simp
          go_at_call 198; (with_reducible refine (hd2.out _).mono ?_); rintro e w8 ⟨rfl, hp8⟩; go_wp2_with fail
          refine hK.out _ _ ?_ (fun hHeld => ?_)
          · first | assumption | with_reducible exact hst.out | with_reducible exact hS.out _ (Pure.then_ (hS2.out _ (by assumption)) (by assumption))
          clear hK K
          try simp only [Act.put, List.setIfInBounds_toArray, List.set_cons_zero, List.set_cons_succ, List.getElem_toArray, List.getElem_cons_succ, List.getElem_cons_zero]
          refine tkA 7 ?_
          refine tkA 8 ?_
          refine tkA 9 ?_
          refine tkA 10 ?_
          refine wpAnyH_ready (rs := [11]) (by kernel_rfl) (by simp) ?_
          refine AllReadyH.cons rfl (fun K hK => ?_) AllReadyH.nil
          (try simp only [List.getElem_toArray, List.getElem_cons_succ, List.getElem_cons_zero])
          go_simp
          go_at_call 199; (with_reducible refine (hd3.out _).mono ?_); rintro e w9 ⟨rfl, hp9⟩; go_wp2_with fail
          refine hK.out _ _ ?_ (fun hHeld => ?_)
          · first | assumption | with_reducible exact hst.out | with_reducible exact hS.out _ (Pure.then_ (hS2.out _ (by assumption)) (by assumption))
          clear hK K
          try simp only [Act.put, List.setIfInBounds_toArray, List.set_cons_zero, List.set_cons_succ, List.getElem_toArray, List.getElem_cons_succ, List.getElem_cons_zero]
          refine tkA 12 ?_
          refine tkA 13 ?_
          refine tkU 14 ?_
          refine tkU 15 ?_
          refine tkU 16 ?_
          refine tkU 17 ?_
          refine tkU 18 ?_
          refine tkU 19 ?_
          refine tkU 20 ?_
          refine tkU 21 ?_
          refine tkU 22 ?_
          refine tkU 23 ?_
          refine tkU 24 ?_
          refine tkU 25 ?_
          refine tkU 26 ?_
          refine tkA 27 ?_
          refine tkA 28 ?_
          refine wpAnyH_done (by kernel_rfl) ?_ _
          have hx := hid (hS2.out w9 (by assumption))
          go_wp2
          rw [Exit.noGoto_ret]
          go_ret
          exact ⟨by rw [HF.out]; rfl, Hp.out.then_ (Pure.then_ Hpd.out hx.out)⟩
        | true =>
          by_cases c4 : k = 0
          · subst c4
            have HT := hid (Hyes.out (by rw [Htat.out]; rfl))
            clear Hyes Hno Htat hprev hd4
            simp only [Nat.zero_mul, Nat.add_zero] at x0 x1 x2 x3
            have hS : Hid (∀ W, Pure Wd W → (W.cell? ⟨wr.heap.size, 0, none⟩ = some (.int .i64 z1) ∧ W.cell? ⟨wr.heap.size, 1, none⟩ = some (.int .i64 z2) ∧ W.cell? ⟨wr.heap.size, 2, none⟩ = some (.int .i64 zr) ∧ W.cell? ⟨wr.heap.size, 3, none⟩ = some (.int .i64 zu) ∧ Pure Wd W)) := fun W hW => by
              have ed := (hW.block _ (lt_of_block Hbd.out)).trans Hbd.out
              exact ⟨cell_of_block ed 0, cell_of_block ed 1, cell_of_block ed 2, cell_of_block ed 3, hW⟩
            have hst := hid (hS.out Wd.drew (Below.refl _ _).drew)
            have hS2 : Hid (∀ W : World, (W.cell? ⟨wr.heap.size, 0, none⟩ = some (.int .i64 z1) ∧ W.cell? ⟨wr.heap.size, 1, none⟩ = some (.int .i64 z2) ∧ W.cell? ⟨wr.heap.size, 2, none⟩ = some (.int .i64 zr) ∧ W.cell? ⟨wr.heap.size, 3, none⟩ = some (.int .i64 zu) ∧ Pure Wd W) → Pure Wd W) := fun W h => h.2.2.2.2
            go_wp2_with fail
            rw [← hWd]
            clear hWd x0 x1 x2 x3
            refine wp_region_held_drew (S := (fun W => W.cell? ⟨wr.heap.size, 0, none⟩ = some (.int .i64 z1) ∧ W.cell? ⟨wr.heap.size, 1, none⟩ = some (.int .i64 z2) ∧ W.cell? ⟨wr.heap.size, 2, none⟩ = some (.int .i64 zr) ∧ W.cell? ⟨wr.heap.size, 3, none⟩ = some (.int .i64 zu) ∧ Pure Wd W)) (by kernel_rfl) ?_ (fun hHeld => ?_)
            · first | assumption | with_reducible exact hst.out | with_reducible exact hS.out _ (Pure.then_ (hS2.out _ (by assumption)) (by assumption))
            refine tkA 0 ?_
            refine tkA 1 ?_
            refine wpAnyH_ready (rs := [2]) (by kernel_rfl) (by simp) ?_
            refine AllReadyH.cons rfl (fun K hK => ?_) AllReadyH.nil
            (try simp only [List.getElem_toArray, List.getElem_cons_succ, List.getElem_cons_zero])
            go_simp
            go_at_call 176; (with_reducible refine (hd1.out _).mono ?_); rintro e w7 ⟨rfl, hp7⟩; go_wp2_with fail
            refine hK.out _ _ ?_ (fun hHeld => ?_)
            · first | assumption | with_reducible exact hst.out | with_reducible exact hS.out _ (Pure.then_ (hS2.out _ (by assumption)) (by assumption))
            clear hK K
            try simp only [Act.put, List.setIfInBounds_toArray, List.set_cons_zero, List.set_cons_succ, List.getElem_toArray, List.getElem_cons_succ, List.getElem_cons_zero]
            refine tkA 3 ?_
            refine tkA 4 ?_
            refine tkA 5 ?_
            refine wpAnyH_ready (rs := [6]) (by kernel_rfl) (by simp) ?_
            refine AllReadyH.cons rfl (fun K hK => ?_) AllReadyH.nil
            (try simp only [List.getElem_toArray, List.getElem_cons_succ, List.getElem_cons_zero])
            go_simp
            go_at_call 198; (with_reducible refine (hd2.out _).mono ?_); rintro e w8 ⟨rfl, hp8⟩; go_wp2_with fail
            refine hK.out _ _ ?_ (fun hHeld => ?_)
            · first | assumption | with_reducible exact hst.out | with_reducible exact hS.out _ (Pure.then_ (hS2.out _ (by assumption)) (by assumption))
            clear hK K
            try simp only [Act.put, List.setIfInBounds_toArray, List.set_cons_zero, List.set_cons_succ, List.getElem_toArray, List.getElem_cons_succ, List.getElem_cons_zero]
            refine tkA 7 ?_
            refine tkA 8 ?_
            refine tkA 9 ?_
            refine tkA 10 ?_
            refine wpAnyH_ready (rs := [11]) (by kernel_rfl) (by simp) ?_
            refine AllReadyH.cons rfl (fun K hK => ?_) AllReadyH.nil
            (try simp only [List.getElem_toArray, List.getElem_cons_succ, List.getElem_cons_zero])
            go_simp
            go_at_call 199; (with_reducible refine (hd3.out _).mono ?_); rintro e w9 ⟨rfl, hp9⟩; go_wp2_with fail
            refine hK.out _ _ ?_ (fun hHeld => ?_)
            · first | assumption | with_reducible exact hst.out | with_reducible exact hS.out _ (Pure.then_ (hS2.out _ (by assumption)) (by assumption))
            clear hK K
            try simp only [Act.put, List.setIfInBounds_toArray, List.set_cons_zero, List.set_cons_succ, List.getElem_toArray, List.getElem_cons_succ, List.getElem_cons_zero]
            refine tkA 12 ?_
            refine tkA 13 ?_
            refine tkA 14 ?_
            refine tkA 15 ?_
            refine tkA 16 ?_
            refine tkU 17 ?_
            refine tkU 18 ?_
            refine tkU 19 ?_
            refine tkU 20 ?_
            refine tkU 21 ?_
            refine tkU 22 ?_
            refine tkU 23 ?_
            refine tkU 24 ?_
            refine tkU 25 ?_
            refine tkA 26 ?_
            refine tkA 27 ?_
            refine tkA 28 ?_
            refine wpAnyH_done (by kernel_rfl) ?_ _
            have hx := hid (hS2.out w9 (by assumption))
            go_wp2
            go_roundw
            case rel => exact ⟨0 + 1, by omega, rfl, by go_num, HT.out, Hp.out.then_ (Pure.then_ Hpd.out hx.out)⟩
            case measure => simp [RowKit.intOf]; omega
          · have h0' : ((k : Int) == 0) = false := by simp; omega
            have h0'' : (k == 0) = false := by simpa using c4
            have hsub : IntKind.i64.wrap ((k : Int) - 1) = ((k - 1 : Nat) : Int) := by rw [IntWalk.i64_in _ (by omega)]; omega
            have hsub2 : (k : Int) - 1 = ((k - 1 : Nat) : Int) := by omega
            have hlt2 : ((k - 1 : Nat) : Int) < (l.length : Int) := by omega
            obtain ⟨y0, y0b⟩ := hprev.out (by omega)
            have hn : (0 : Int) ≤ ((k - 1 : Nat) : Int) := by omega
            have HT' := hid (fun (e : D4 = true) => Hyes.out (by rw [Htat.out, e, Bool.or_true]; rfl))
            have HF' := hid (fun (e : D4 = false) => Hno.out (by rw [Htat.out, e, decide_eq_false c4]; rfl))
            have hwm : IntKind.i64.wrap ((k - 1 : Nat) : Int) = ((k - 1 : Nat) : Int) := IntWalk.i64_in _ (by omega)
            clear Hyes Hno Htat hprev
            cases D4 with
            | true =>
              have HT := hid (HT'.out rfl)
              clear HT' HF'
              have hS : Hid (∀ W, Pure Wd W → (W.cell? ⟨wr.heap.size, 0, none⟩ = some (.int .i64 z1) ∧ W.cell? ⟨wr.heap.size, 1, none⟩ = some (.int .i64 z2) ∧ W.cell? ⟨wr.heap.size, 2, none⟩ = some (.int .i64 zr) ∧ W.cell? ⟨wr.heap.size, 3, none⟩ = some (.int .i64 zu) ∧ W.cell? ⟨b, off + (k - 1) * 4, none⟩ = some (.int .i64 y1) ∧ W.cell? ⟨b, off + (k - 1) * 4 + 1, none⟩ = some (.int .i64 y2) ∧ Pure Wd W)) := fun W hW => by
                have ed := (hW.block _ (lt_of_block Hbd.out)).trans Hbd.out
                exact ⟨cell_of_block ed 0, cell_of_block ed 1, cell_of_block ed 2, cell_of_block ed 3, (Hwb.out W hW).trans y0, (Hwb2.out W hW).trans y0b, hW⟩
              have hst := hid (hS.out Wd.drew (Below.refl _ _).drew)
              have hS2 : Hid (∀ W : World, (W.cell? ⟨wr.heap.size, 0, none⟩ = some (.int .i64 z1) ∧ W.cell? ⟨wr.heap.size, 1, none⟩ = some (.int .i64 z2) ∧ W.cell? ⟨wr.heap.size, 2, none⟩ = some (.int .i64 zr) ∧ W.cell? ⟨wr.heap.size, 3, none⟩ = some (.int .i64 zu) ∧ W.cell? ⟨b, off + (k - 1) * 4, none⟩ = some (.int .i64 y1) ∧ W.cell? ⟨b, off + (k - 1) * 4 + 1, none⟩ = some (.int .i64 y2) ∧ Pure Wd W) → Pure Wd W) := fun W h => h.2.2.2.2.2.2
              generalize hj : k - 1 = j at *
              go_wp2_with fail
              rw [← hWd]
              clear hWd x0 x1 x2 x3
              refine wp_region_held_drew (S := (fun W => W.cell? ⟨wr.heap.size, 0, none⟩ = some (.int .i64 z1) ∧ W.cell? ⟨wr.heap.size, 1, none⟩ = some (.int .i64 z2) ∧ W.cell? ⟨wr.heap.size, 2, none⟩ = some (.int .i64 zr) ∧ W.cell? ⟨wr.heap.size, 3, none⟩ = some (.int .i64 zu) ∧ W.cell? ⟨b, off + j * 4, none⟩ = some (.int .i64 y1) ∧ W.cell? ⟨b, off + j * 4 + 1, none⟩ = some (.int .i64 y2) ∧ Pure Wd W)) (by kernel_rfl) ?_ (fun hHeld => ?_)
              · first | assumption | with_reducible exact hst.out | with_reducible exact hS.out _ (Pure.then_ (hS2.out _ (by assumption)) (by assumption))
              refine tkA 0 ?_
              refine tkA 1 ?_
              refine wpAnyH_ready (rs := [2]) (by kernel_rfl) (by simp) ?_
              refine AllReadyH.cons rfl (fun K hK => ?_) AllReadyH.nil
              (try simp only [List.getElem_toArray, List.getElem_cons_succ, List.getElem_cons_zero])
              go_simp
              go_at_call 176; (with_reducible refine (hd1.out _).mono ?_); rintro e w7 ⟨rfl, hp7⟩; go_wp2_with fail
              refine hK.out _ _ ?_ (fun hHeld => ?_)
              · first | assumption | with_reducible exact hst.out | with_reducible exact hS.out _ (Pure.then_ (hS2.out _ (by assumption)) (by assumption))
              clear hK K
              try simp only [Act.put, List.setIfInBounds_toArray, List.set_cons_zero, List.set_cons_succ, List.getElem_toArray, List.getElem_cons_succ, List.getElem_cons_zero]
              refine tkA 3 ?_
              refine tkA 4 ?_
              refine tkA 5 ?_
              refine wpAnyH_ready (rs := [6]) (by kernel_rfl) (by simp) ?_
              refine AllReadyH.cons rfl (fun K hK => ?_) AllReadyH.nil
              (try simp only [List.getElem_toArray, List.getElem_cons_succ, List.getElem_cons_zero])
              go_simp
              go_at_call 198; (with_reducible refine (hd2.out _).mono ?_); rintro e w8 ⟨rfl, hp8⟩; go_wp2_with fail
              refine hK.out _ _ ?_ (fun hHeld => ?_)
              · first | assumption | with_reducible exact hst.out | with_reducible exact hS.out _ (Pure.then_ (hS2.out _ (by assumption)) (by assumption))
              clear hK K
              try simp only [Act.put, List.setIfInBounds_toArray, List.set_cons_zero, List.set_cons_succ, List.getElem_toArray, List.getElem_cons_succ, List.getElem_cons_zero]
              refine tkA 7 ?_
              refine tkA 8 ?_
              refine tkA 9 ?_
              refine tkA 10 ?_
              refine wpAnyH_ready (rs := [11]) (by kernel_rfl) (by simp) ?_
              refine AllReadyH.cons rfl (fun K hK => ?_) AllReadyH.nil
              (try simp only [List.getElem_toArray, List.getElem_cons_succ, List.getElem_cons_zero])
              go_simp
              go_at_call 199; (with_reducible refine (hd3.out _).mono ?_); rintro e w9 ⟨rfl, hp9⟩; go_wp2_with fail
              refine hK.out _ _ ?_ (fun hHeld => ?_)
              · first | assumption | with_reducible exact hst.out | with_reducible exact hS.out _ (Pure.then_ (hS2.out _ (by assumption)) (by assumption))
              clear hK K
              try simp only [Act.put, List.setIfInBounds_toArray, List.set_cons_zero, List.set_cons_succ, List.getElem_toArray, List.getElem_cons_succ, List.getElem_cons_zero]
              refine tkA 12 ?_
              refine tkA 13 ?_
              refine tkA 14 ?_
              refine tkA 15 ?_
              refine tkA 16 ?_
              refine tkA 17 ?_
              refine tkA 18 ?_
              refine tkA 19 ?_
              refine tkA 20 ?_
              refine tkA 21 ?_
              refine tkA 22 ?_
              refine tkA 23 ?_
              refine tkA 24 ?_
              refine wpAnyH_ready (rs := [25]) (by kernel_rfl) (by simp) ?_
              refine AllReadyH.cons rfl (fun K hK => ?_) AllReadyH.nil
              (try simp only [List.getElem_toArray, List.getElem_cons_succ, List.getElem_cons_zero])
              go_simp
              go_at_call 145; (with_reducible refine (hd4.out _).mono ?_); rintro e w10 ⟨rfl, hp10⟩; go_wp2_with fail
              refine hK.out _ _ ?_ (fun hHeld => ?_)
              · first | assumption | with_reducible exact hst.out | with_reducible exact hS.out _ (Pure.then_ (hS2.out _ (by assumption)) (by assumption))
              clear hK K
              try simp only [Act.put, List.setIfInBounds_toArray, List.set_cons_zero, List.set_cons_succ, List.getElem_toArray, List.getElem_cons_succ, List.getElem_cons_zero]
              refine tkA 26 ?_
              refine tkA 27 ?_
              refine tkA 28 ?_
              refine wpAnyH_done (by kernel_rfl) ?_ _
              have hx := hid (hS2.out w10 (by assumption))
              go_wp2
              go_roundw
              case rel => exact ⟨k + 1, by omega, rfl, by go_num, HT.out, Hp.out.then_ (Pure.then_ Hpd.out hx.out)⟩
              case measure => simp [RowKit.intOf]; omega
            | false =>
              have HF := hid (HF'.out rfl)
              clear HT' HF'
              have hS : Hid (∀ W, Pure Wd W → (W.cell? ⟨wr.heap.size, 0, none⟩ = some (.int .i64 z1) ∧ W.cell? ⟨wr.heap.size, 1, none⟩ = some (.int .i64 z2) ∧ W.cell? ⟨wr.heap.size, 2, none⟩ = some (.int .i64 zr) ∧ W.cell? ⟨wr.heap.size, 3, none⟩ = some (.int .i64 zu) ∧ W.cell? ⟨b, off + (k - 1) * 4, none⟩ = some (.int .i64 y1) ∧ W.cell? ⟨b, off + (k - 1) * 4 + 1, none⟩ = some (.int .i64 y2) ∧ Pure Wd W)) := fun W hW => by
                have ed := (hW.block _ (lt_of_block Hbd.out)).trans Hbd.out
                exact ⟨cell_of_block ed 0, cell_of_block ed 1, cell_of_block ed 2, cell_of_block ed 3, (Hwb.out W hW).trans y0, (Hwb2.out W hW).trans y0b, hW⟩
              have hst := hid (hS.out Wd.drew (Below.refl _ _).drew)
              have hS2 : Hid (∀ W : World, (W.cell? ⟨wr.heap.size, 0, none⟩ = some (.int .i64 z1) ∧ W.cell? ⟨wr.heap.size, 1, none⟩ = some (.int .i64 z2) ∧ W.cell? ⟨wr.heap.size, 2, none⟩ = some (.int .i64 zr) ∧ W.cell? ⟨wr.heap.size, 3, none⟩ = some (.int .i64 zu) ∧ W.cell? ⟨b, off + (k - 1) * 4, none⟩ = some (.int .i64 y1) ∧ W.cell? ⟨b, off + (k - 1) * 4 + 1, none⟩ = some (.int .i64 y2) ∧ Pure Wd W) → Pure Wd W) := fun W h => h.2.2.2.2.2.2
              generalize hj : k - 1 = j at *
              go_wp2_with fail
              rw [← hWd]
              clear hWd x0 x1 x2 x3
              refine wp_region_held_drew (S := (fun W => W.cell? ⟨wr.heap.size, 0, none⟩ = some (.int .i64 z1) ∧ W.cell? ⟨wr.heap.size, 1, none⟩ = some (.int .i64 z2) ∧ W.cell? ⟨wr.heap.size, 2, none⟩ = some (.int .i64 zr) ∧ W.cell? ⟨wr.heap.size, 3, none⟩ = some (.int .i64 zu) ∧ W.cell? ⟨b, off + j * 4, none⟩ = some (.int .i64 y1) ∧ W.cell? ⟨b, off + j * 4 + 1, none⟩ = some (.int .i64 y2) ∧ Pure Wd W)) (by kernel_rfl) ?_ (fun hHeld => ?_)
              · first | assumption | with_reducible exact hst.out | with_reducible exact hS.out _ (Pure.then_ (hS2.out _ (by assumption)) (by assumption))
              refine tkA 0 ?_
              refine tkA 1 ?_
              refine wpAnyH_ready (rs := [2]) (by kernel_rfl) (by simp) ?_
              refine AllReadyH.cons rfl (fun K hK => ?_) AllReadyH.nil
              (try simp only [List.getElem_toArray, List.getElem_cons_succ, List.getElem_cons_zero])
              go_simp
              go_at_call 176; (with_reducible refine (hd1.out _).mono ?_); rintro e w7 ⟨rfl, hp7⟩; go_wp2_with fail
              refine hK.out _ _ ?_ (fun hHeld => ?_)
              · first | assumption | with_reducible exact hst.out | with_reducible exact hS.out _ (Pure.then_ (hS2.out _ (by assumption)) (by assumption))
              clear hK K
              try simp only [Act.put, List.setIfInBounds_toArray, List.set_cons_zero, List.set_cons_succ, List.getElem_toArray, List.getElem_cons_succ, List.getElem_cons_zero]
              refine tkA 3 ?_
              refine tkA 4 ?_
              refine tkA 5 ?_
              refine wpAnyH_ready (rs := [6]) (by kernel_rfl) (by simp) ?_
              refine AllReadyH.cons rfl (fun K hK => ?_) AllReadyH.nil
              (try simp only [List.getElem_toArray, List.getElem_cons_succ, List.getElem_cons_zero])
              go_simp
              go_at_call 198; (with_reducible refine (hd2.out _).mono ?_); rintro e w8 ⟨rfl, hp8⟩; go_wp2_with fail
              refine hK.out _ _ ?_ (fun hHeld => ?_)
              · first | assumption | with_reducible exact hst.out | with_reducible exact hS.out _ (Pure.then_ (hS2.out _ (by assumption)) (by assumption))
              clear hK K
              try simp only [Act.put, List.setIfInBounds_toArray, List.set_cons_zero, List.set_cons_succ, List.getElem_toArray, List.getElem_cons_succ, List.getElem_cons_zero]
              refine tkA 7 ?_
              refine tkA 8 ?_
              refine tkA 9 ?_
              refine tkA 10 ?_
              refine wpAnyH_ready (rs := [11]) (by kernel_rfl) (by simp) ?_
              refine AllReadyH.cons rfl (fun K hK => ?_) AllReadyH.nil
              (try simp only [List.getElem_toArray, List.getElem_cons_succ, List.getElem_cons_zero])
              go_simp
              go_at_call 199; (with_reducible refine (hd3.out _).mono ?_); rintro e w9 ⟨rfl, hp9⟩; go_wp2_with fail
              refine hK.out _ _ ?_ (fun hHeld => ?_)
              · first | assumption | with_reducible exact hst.out | with_reducible exact hS.out _ (Pure.then_ (hS2.out _ (by assumption)) (by assumption))
              clear hK K
              try simp only [Act.put, List.setIfInBounds_toArray, List.set_cons_zero, List.set_cons_succ, List.getElem_toArray, List.getElem_cons_succ, List.getElem_cons_zero]
              refine tkA 12 ?_
              refine tkA 13 ?_
              refine tkA 14 ?_
              refine tkA 15 ?_
              refine tkA 16 ?_
              refine tkA 17 ?_
              refine tkA 18 ?_
              refine tkA 19 ?_
              refine tkA 20 ?_
              refine tkA 21 ?_
              refine tkA 22 ?_
              refine tkA 23 ?_
              refine tkA 24 ?_
              refine wpAnyH_ready (rs := [25]) (by kernel_rfl) (by simp) ?_
              refine AllReadyH.cons rfl (fun K hK => ?_) AllReadyH.nil
              (try simp only [List.getElem_toArray, List.getElem_cons_succ, List.getElem_cons_zero])
              go_simp
              go_at_call 145; (with_reducible refine (hd4.out _).mono ?_); rintro e w10 ⟨rfl, hp10⟩; go_wp2_with fail
              refine hK.out _ _ ?_ (fun hHeld => ?_)
              · first | assumption | with_reducible exact hst.out | with_reducible exact hS.out _ (Pure.then_ (hS2.out _ (by assumption)) (by assumption))
              clear hK K
              try simp only [Act.put, List.setIfInBounds_toArray, List.set_cons_zero, List.set_cons_succ, List.getElem_toArray, List.getElem_cons_succ, List.getElem_cons_zero]
              refine tkA 26 ?_
              refine tkA 27 ?_
              refine tkA 28 ?_
              refine wpAnyH_done (by kernel_rfl) ?_ _
              have hx := hid (hS2.out w10 (by assumption))
              go_wp2
              rw [Exit.noGoto_ret]
              go_ret
              exact ⟨by rw [HF.out]; rfl, Hp.out.then_ (Pure.then_ Hpd.out hx.out)⟩
      · have hlt' : ¬ (k : Int) < (l.length : Int) := by omega
        obtain rfl : k = l.length := by omega
        have HT := hid (HE.out Hal.out)
        go_wp2
        first | rw [Exit.noGoto_ret] | skip
        go_ret
        exact ⟨by rw [HT.out]; rfl, Hp.out⟩
  · have hC2 : C = false := by rw [hC]; unfold hchk; rw [decide_eq_false h100]; rfl
    subst hC2
    have h100' : (l.length : Int) > 1000 := by omega
    go_enter Tryz.func157, Tryz.ntmps157
    go_wp2_with fail
    go_step3
    go_wp2
    rw [Exit.noGoto_ret]
    go_ret
    exact ⟨rfl, Below.refl _ _⟩
end Go.Proofs.YtdlpnhfgjficgaaGreat

namespace Go.Proofs.YtdlpnhfgjficgaaGreat
open Go.RowKit Go.Maps Go.Shelf

theorem rdHold_none : (rdHold none).2 = none := rfl
set_option maxRecDepth 8000 in
set_option maxHeartbeats 4000000 in
theorem hread_any (b : Nat) (s : RS) (w : World) (h : RdAt 117 b s w) :
    Calls Tryz.prog 98 #[.pointer (some ⟨b, 0, none⟩)] w (RdRowG hcells 4 117 b (rdHolds s).1 (rdHolds s).2 w) := by
  have Hb := hid h.lt
  have hi1 := hid (mintr_any b s 1000 w h (by decide) (by decide))
  have hbd := rdInt_bd 1000 s
  have hz := rdInt_zero 1000 s
  have Hr : Hid (rdHolds s = match rdItems rdHold (rdInt 1000 s).1.toNat [] (rdInt 1000 s).2 with
    | (_, none) => ([], none)
    | (l, some r) => if hchk l then (l, some r) else ([], none)) := (show _ = _ from rfl)
  have hfine := hid (fun s W (hW : RdAt 117 b s W) => fine_any b s W hW)
  have hdot := hid (fun s W (hW : RdAt 117 b s W) => dread_any b s W hW)
  have h40 := hid (fun s W (hW : RdAt 117 b s W) => mintr_any b s 1099511627776 W hW (by decide) (by decide))
  have h50 := hid (fun s W (hW : RdAt 117 b s W) => mintr_any b s 1125899906842624 W hW (by decide) (by decide))
  have hneg := hid (fun s W (hW : RdAt 117 b s W) => (show Calls _ _ _ _ _ from by have := mintr_any b s (-1) W hW (by decide) (by decide); rw [rdInt_neg (-1) (by decide)] at this; exact this))
  have hck := hid (fun v l W (hW : Holds W v l) hl => hchk_any v l W hW hl)
  have Hw := hid (show RdOwn hcells 4 94 117 b (.slice none 0 0) [] s w w from ⟨RdK.start h, World.ownsRow_nil _ _ _ _, h.lt⟩)
  unfold RdP at hi1 h40 h50 hdot hneg
  unfold dv at hdot
  generalize rdHolds s = R at *
  generalize rdInt 1000 s = N1 at *
  obtain ⟨x, s1⟩ := N1
  dsimp only at hi1 hbd Hr hz
  obtain ⟨n, rfl⟩ : ∃ n : Nat, x = n := ⟨x.toNat, by omega⟩
  have Hr2 := hid Hr.out
  rw [Int.toNat_natCast] at Hr2
  have Hst := hid (RdIn.start rdHold n s1 (fun e => by have := hz e; omega))
  obtain ⟨total, htot⟩ : ∃ t, t = rdItems rdHold n [] s1 := ⟨_, rfl⟩
  rw [← htot] at Hr2 Hst
  have hbn := hbd.2 (by omega)
  clear h hbd Hr htot hz
  go_enter Tryz.func98, Tryz.ntmps98
  go_wp2_with fail
  refine hi1.out.mono ?_
  rintro e w1 ⟨rfl, hr1, hk1⟩
  have H1 := hid (Hw.out.next hr1 hk1)
  clear hr1 hk1
  go_wp2_with fail
  go_loopw [3, 7] (fun v i wr => ∃ (k : Nat) (acc : List Hold) (s : RS), i = .int .i64 k ∧ k ≤ n ∧ acc.length = k ∧ RdOwn hcells 4 94 117 b v acc s w wr ∧ RdIn rdHold total (n - k) acc s) (fun _ i _ => n - (RowKit.intOf i).toNat)
  case atStart => exact ⟨0, [], s1, rfl, Nat.zero_le _, rfl, H1.out, Hst.out⟩
  case round =>
    obtain ⟨k, acc, s, rfl, hkn, hlen, hI, hin⟩ := hrel
    have HI := hid hI
    have Hin := hid hin
    have Hlen := hid hlen
    have hl100 : acc.length ≤ 1000 := by omega
    obtain ⟨a, c, rfl⟩ := own_shape_d hI.own
    clear hI hin hlen
    by_cases hlt : k < n
    · have hlt' : (k : Int) < (n : Int) := by omega
      have Hstep := hid (RdIn.step (m := n - (k + 1)) rdHold_none (by have := Hin.out; rw [show n - k = (n - (k + 1)) + 1 by omega] at this; exact this))
      have hM : rdHold s = (((rdDot s).1, (rdInt 1099511627776 (rdDot s).2).1, (rdInt 1125899906842624 (rdInt 1099511627776 (rdDot s).2).2).1), (rdInt 1125899906842624 (rdInt 1099511627776 (rdDot s).2).2).2) := rfl
      rw [hM] at Hstep
      have g1 := hid (hdot.out s)
      have g2 := hid (h40.out (rdDot s).2)
      have g3 := hid (h50.out (rdInt 1099511627776 (rdDot s).2).2)
      clear hM
      generalize rdInt 1125899906842624 (rdInt 1099511627776 (rdDot s).2).2 = N3 at *
      generalize rdInt 1099511627776 (rdDot s).2 = N2 at *
      generalize rdDot s = N1 at *
      obtain ⟨⟨d1, d2⟩, t1⟩ := N1
      obtain ⟨qr, t2⟩ := N2
      obtain ⟨qu, t3⟩ := N3
      dsimp only at g1 g2 g3 Hstep
      go_wp2_with fail
      refine (g1.out wr HI.out.r.r).mono ?_
      rintro e w3 ⟨rfl, hr3, hk3⟩
      have I3 := hid (HI.out.next hr3 hk3)
      obtain ⟨y3, hy3⟩ : ∃ y3, y3 = w3.alloc (.cells #[.int .i64 d1, .int .i64 d2, .int .i64 0, .int .i64 0] 94) := ⟨_, rfl⟩
      have J3 := hid (show RdOwn hcells 4 94 117 b (.slice a acc.length c) acc t1 w y3 from by rw [hy3]; exact I3.out.alloc _)
      have M3 := hid (show y3.heap[w3.heap.size]? = some (.cells #[.int .i64 d1, .int .i64 d2, .int .i64 0, .int .i64 0] 94 (0, 0)) from by rw [hy3]; exact block_alloc_new _ _)
      have nm := hid (show w.heap.size ≤ w3.heap.size ∧ (∀ j, (Value.slice a acc.length c).ownBlock = some j → j ≠ w3.heap.size) from ⟨I3.out.r.k.size, fun j hj e => by have := (I3.out.own.lt j hj).2; omega⟩)
      clear hr3 hk3 I3 g1
      go_wp2_with fail
      rw [← hy3]
      clear hy3
      generalize w3.heap.size = m at *
      refine (g2.out y3 J3.out.r.r).mono ?_
      rintro e w4 ⟨rfl, hr4, hk4⟩
      have I4 := hid (J3.out.next hr4 hk4)
      have M4' := hid (block_kept M3.out hk4 (by have := nm.out.1; have := J3.out.wb; omega))
      have e1 := cell_of_block M4'.out 2
      have f1 := free_of_block M4'.out 2
      simp at e1
      obtain ⟨y4, hy4⟩ : ∃ y4, y4 = w4.setCell ⟨m, 2, none⟩ (.int .i64 qr) := ⟨_, rfl⟩
      have J4 := hid (show RdOwn hcells 4 94 117 b (.slice a acc.length c) acc t2 w y4 from by rw [hy4]; exact I4.out.set nm.out.1 nm.out.2 _)
      have M4 := hid (show y4.heap[m]? = some (.cells #[.int .i64 d1, .int .i64 d2, .int .i64 qr, .int .i64 0] 94 (0, 0)) from by rw [hy4]; have := block_setCell M4'.out 2 (.int .i64 qr); simpa using this)
      clear hr4 hk4 I4 M4' J3 M3 g2
      go_wp2_with fail
      rw [← hy4]
      clear hy4 e1 f1
      refine (g3.out y4 J4.out.r.r).mono ?_
      rintro e w5 ⟨rfl, hr5, hk5⟩
      have I5 := hid (J4.out.next hr5 hk5)
      have M5' := hid (block_kept M4.out hk5 (by have := nm.out.1; have := J4.out.wb; omega))
      have e1 := cell_of_block M5'.out 3
      have f1 := free_of_block M5'.out 3
      simp at e1
      obtain ⟨y5, hy5⟩ : ∃ y5, y5 = w5.setCell ⟨m, 3, none⟩ (.int .i64 qu) := ⟨_, rfl⟩
      have J5 := hid (show RdOwn hcells 4 94 117 b (.slice a acc.length c) acc t3 w y5 from by rw [hy5]; exact I5.out.set nm.out.1 nm.out.2 _)
      have M5 := hid (show y5.heap[m]? = some (.cells #[.int .i64 d1, .int .i64 d2, .int .i64 qr, .int .i64 qu] 94 (0, 0)) from by rw [hy5]; have := block_setCell M5'.out 3 (.int .i64 qu); simpa using this)
      clear hr5 hk5 I5 M5' J4 M4 g3
      go_upto_region 7 with fail
      rw [← hy5]
      clear hy5 e1 f1
      have g0 := cell_of_block M5.out 0
      have g1 := cell_of_block M5.out 1
      have g2 := cell_of_block M5.out 2
      have g3 := cell_of_block M5.out 3
      simp at g0 g1 g2 g3
      have hs6 : w.heap.size ≤ (y5.alloc (.cells #[.int .i64 d1, .int .i64 d2, .int .i64 qr, .int .i64 qu] 94)).heap.size := by have := J5.out.r.k.size; simp; omega
      go_wp2_with (at_builtin; refine wpList_append_holds rfl _ _ rfl w.heap.size _ acc acc.length rfl (J5.out.own.alloc _) _ [(((d1, d2), qr, qu) : Hold)] 1 rfl (holds_lit y5 (((d1, d2), qr, qu) : Hold)) (by omega) hs6 ?_)
      intro v7 w7 hown7 hg7
      have Hown7 := hid (show w7.ownsRow w.heap.size 94 4 v7 (acc ++ [(((d1, d2), qr, qu) : Hold)]).length (gvs hcells (acc ++ [(((d1, d2), qr, qu) : Hold)])) from by rw [List.length_append]; exact hown7)
      have J9 := hid ((J5.out.alloc _).grow hg7 Hown7.out)
      obtain ⟨a7, c7, rfl⟩ := own_shape_d hown7
      clear hown7 hg7 g0 g1 g2 g3 hs6
      go_wp2_with fail
      refine (hfine.out t3 w7 J9.out.r.r).mono ?_
      rintro e w8 ⟨rfl, hp8⟩
      have J8 := hid (J9.out.pure hp8)
      clear hp8
      cases t3 with
      | none =>
        have HR := hid (show R = ([], none) from by
          have e : total = ([], none) := Hstep.out
          rw [Hr2.out, e])
        go_wp2
        go_ret
        exact J8.out.none_ (by rw [HR.out]) (by rw [HR.out])
      | some r3 =>
        go_wp2
        go_roundw
        case rel => exact ⟨k + 1, acc ++ [((d1, d2), qr, qu)], some r3, by go_num, by omega, by simp [Hlen.out], J8.out, Hstep.out⟩
        case measure => simp [RowKit.intOf]; omega
    · obtain rfl : k = n := by omega
      have hlt' : ¬ (k : Int) < (k : Int) := by omega
      have Htt := hid (RdIn.fin (by have := Hin.out; rw [Nat.sub_self] at this; exact this))
      go_wp2_with fail
      refine (hfine.out s wr HI.out.r.r).mono ?_
      rintro e w3 ⟨rfl, hp3⟩
      have J3 := hid (HI.out.pure hp3)
      clear hp3
      cases s with
      | none =>
        have HR := hid (show R = ([], none) from by rw [Hr2.out, Htt.out])
        go_wp2_with fail
        refine (hneg.out none w3 J3.out.r.r).mono ?_
        rintro e w5 ⟨rfl, hr5, hk5⟩
        have J5 := hid (J3.out.next hr5 hk5)
        clear hr5 hk5
        go_wp2
        go_ret
        exact J5.out.none_ (by rw [HR.out]) (by rw [HR.out])
      | some r =>
        have HRr := hid (show R = if hchk acc then (acc, some r) else ([], none) from by rw [Hr2.out, Htt.out])
        have hcb := hid (hck.out _ _ w3 J3.out.row (by omega))
        unfold er1 at hcb
        generalize hchk acc = V at *
        go_wp2_with fail
        refine hcb.out.mono ?_
        rintro e w4 ⟨rfl, hp4⟩
        have J4 := hid (J3.out.pure hp4)
        clear hp4
        cases V with
        | false =>
          have HR := hid (show R = ([], none) from HRr.out)
          go_wp2_with fail
          refine (hneg.out (some r) w4 J4.out.r.r).mono ?_
          rintro e w5 ⟨rfl, hr5, hk5⟩
          have J5 := hid (J4.out.next hr5 hk5)
          clear hr5 hk5
          go_wp2
          go_ret
          exact J5.out.none_ (by rw [HR.out]) (by rw [HR.out])
        | true =>
          have HR := hid (show R = (acc, some r) from HRr.out)
          go_wp2
          go_ret
          exact J4.out.done (by rw [HR.out]) (by rw [HR.out])
end Go.Proofs.YtdlpnhfgjficgaaGreat

