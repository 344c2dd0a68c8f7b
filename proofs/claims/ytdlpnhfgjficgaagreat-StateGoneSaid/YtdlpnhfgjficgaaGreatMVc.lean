/- A view checked. view.Read. -/
import Derived.Test.YtdlpnhfgjficgaaGreatMBs
import Derived.Test.YtdlpnhfgjficgaaGreatMVv
import Derived.Test.YtdlpnhfgjficgaaGreatMTx
import Derived.IntWalk
import Derived.Deep.RegionHeld3
import Derived.Test.YtdlpnhfgjficgaaGreatMRg
namespace Go.Proofs.YtdlpnhfgjficgaaGreat
open Go.RowKit Go.Maps Go.Shelf

theorem within_any (n l m : Int) (w : World) : Calls Tryz.prog 213 #[.int .i64 n, .int .i64 l, .int .i64 m] w fun e w' => e = .returned (.bool (decide (l ≤ n) && decide (n ≤ m))) ∧ w = w' := by
  by_cases h : l ≤ n
  · have h' : n ≥ l := h
    go_enter Tryz.func213, Tryz.ntmps213
    go_wp2
    go_ret
    exact ⟨ret_bool (by simp [h]), rfl⟩
  · have h' : ¬ n ≥ l := h
    go_enter Tryz.func213, Tryz.ntmps213
    go_wp2
    go_ret
    exact ⟨ret_bool (by simp; omega), rfl⟩
theorem pmay_of (x y z : Int) : pmay ⟨x, y, z⟩ = ((decide (1 ≤ x) && decide (x ≤ 1099511627776)) && ((decide (0 ≤ y) && decide (y ≤ 1073741824)) && (decide (0 ≤ z) && decide (z ≤ 2)))) := by
  unfold pmay; simp only [Bool.and_assoc]
set_option maxHeartbeats 1000000 in
theorem vmay_any (p : Pr) (w : World) : Calls Tryz.prog 190 #[pv p] w fun e w' => e = .returned (.bool (pmay p)) ∧ Pure w w' := by
  obtain ⟨x, y, z⟩ := p
  rw [pmay_of]
  have h1 := hid (within_any x 1 1099511627776)
  have h2 := hid (within_any y 0 1073741824)
  have h3 := hid (within_any z 0 2)
  have hp := hid (show ∀ o, Pure w (w.alloc o) from fun o => (Below.refl _ _).alloc (Nat.le_refl _) o)
  unfold pv
  dsimp only
  generalize (decide (1 ≤ x) && decide (x ≤ 1099511627776)) = B1 at *
  generalize (decide (0 ≤ y) && decide (y ≤ 1073741824)) = B2 at *
  generalize (decide (0 ≤ z) && decide (z ≤ 2)) = B3 at *
  go_enter Tryz.func190, Tryz.ntmps190
  cases B1 with
  | false =>
    go_wp2_with fail
    refine (h1.out _).mono ?_
    rintro e w1 ⟨rfl, rfl⟩
    go_wp2
    go_ret
    exact ⟨rfl, hp.out _⟩
  | true =>
    go_wp2_with fail
    refine (h1.out _).mono ?_
    rintro e w1 ⟨rfl, rfl⟩
    go_wp2_with fail
    refine (h2.out _).mono ?_
    rintro e w1 ⟨rfl, rfl⟩
    cases B2 with
    | false =>
      go_wp2
      go_ret
      exact ⟨rfl, hp.out _⟩
    | true =>
      go_wp2_with fail
      refine (h3.out _).mono ?_
      rintro e w1 ⟨rfl, rfl⟩
      go_wp2
      go_ret
      exact ⟨rfl, hp.out _⟩
set_option maxRecDepth 8000 in
set_option maxHeartbeats 4000000 in
theorem vchk_any (v : Value) (l : List Pr) (w : World) (hr : Peers w v l) (hl : l.length ≤ 100000) :
    Calls Tryz.prog 149 #[v] w fun e w' => e = .returned (.int .i64 (er1 (vchk l))) ∧ Pure w w' := by
  obtain ⟨a, cap, rfl⟩ := Peers.shape hr
  obtain ⟨C, hC⟩ : ∃ C, C = vchk l := ⟨_, rfl⟩
  rw [← hC]
  by_cases h100 : l.length ≤ 64
  · have HB := hid (show ∀ k, k < l.length → vat l k = false → C = false from fun k h e => by rw [hC]; unfold vchk; rw [allB_false h e, Bool.and_false])
    have HE := hid (show allB l.length (vat l) = true → C = true from fun h => by rw [hC]; unfold vchk; rw [h, decide_eq_true h100]; rfl)
    have Hr := hid hr
    have hmay := hid vmay_any
    have h100' : ¬ (l.length : Int) > 64 := by omega
    clear hr hC
    go_enter Tryz.func149, Tryz.ntmps149
    go_wp2_with fail
    go_loopw [10] (fun i wr => ∃ k : Nat, k ≤ l.length ∧ i = .int .i64 k ∧ allB k (vat l) = true ∧ Pure w wr) (fun i _ => l.length - (RowKit.intOf i).toNat)
    case atStart => exact ⟨0, Nat.zero_le _, rfl, rfl, Below.refl _ _⟩
    case round =>
      obtain ⟨k, hk, rfl, hal, hp⟩ := hrel
      have Hal := hid hal
      have Hp := hid hp
      clear hal
      by_cases hlt : k < l.length
      · have hlt' : (k : Int) < (l.length : Int) := by omega
        have hk0 : (0 : Int) ≤ (k : Int) := by omega
        have Hrow := hid (show Peers wr (.slice a l.length cap) l from Row.pure Hr.out hp)
        obtain ⟨b, off, rfl, hb, x0, x1, x2⟩ := Peers.get Hrow.out hlt
        have Hno := hid (fun (e : vat l k = false) => HB.out k hlt e)
        have Hyes := hid (fun (e : vat l k = true) => allB_next Hal.out e)
        have Htat := hid (show vat l k = (pmay (l.getD k p0) && (decide (k = 0) || decide ((l.getD (k - 1) p0).id < (l.getD k p0).id))) from rfl)
        have hprev := hid (fun (h0 : 0 < k) => (show wr.cell? ⟨b, off + (k - 1) * 3, none⟩ = some (.int .i64 (l.getD (k - 1) p0).id) from by
          obtain ⟨b', off', e', _, y0, _⟩ := Peers.get Hrow.out (show k - 1 < l.length by omega)
          cases e'; exact y0))
        have hmy := hid (hmay.out (l.getD k p0))
        generalize l.getD (k - 1) p0 = y at *
        generalize l.getD k p0 = z at *
        obtain ⟨zi, zn, zs⟩ := z
        obtain ⟨yi, yn, ys⟩ := y
        unfold pv at hmy
        dsimp only at x0 x1 x2 Htat hmy hprev
        obtain ⟨Wd, hWd⟩ : ∃ Wd, Wd = wr.alloc (.cells #[.int .i64 zi, .int .i64 zn, .int .i64 zs] 92) := ⟨_, rfl⟩
        have Hpd := hid (show Pure wr Wd from by rw [hWd]; exact (Below.refl _ _).alloc (Nat.le_refl _) _)
        have Hbd := hid (show Wd.heap[wr.heap.size]? = some (.cells #[.int .i64 zi, .int .i64 zn, .int .i64 zs] 92 (0, 0)) from by rw [hWd]; exact block_alloc_new _ _)
        have Hwb := hid (fun W (hW : Pure Wd W) => (Pure.then_ Hpd.out hW).cell (p := ⟨b, off + (k - 1) * 3, none⟩) hb)
        clear hp
        generalize pmay ⟨zi, zn, zs⟩ = D1 at *
        cases D1 with
        | false =>
          have HF := hid (Hno.out (by rw [Htat.out]; rfl))
          clear Hyes Hno Htat hprev
          have hS : Hid (∀ W, Pure Wd W → (W.cell? ⟨wr.heap.size, 0, none⟩ = some (.int .i64 zi) ∧ W.cell? ⟨wr.heap.size, 1, none⟩ = some (.int .i64 zn) ∧ W.cell? ⟨wr.heap.size, 2, none⟩ = some (.int .i64 zs) ∧ Pure Wd W)) := fun W hW => by
            have ed := (hW.block _ (lt_of_block Hbd.out)).trans Hbd.out
            exact ⟨cell_of_block ed 0, cell_of_block ed 1, cell_of_block ed 2, hW⟩
          have hst := hid (hS.out Wd.drew (Below.refl _ _).drew)
          have hS2 : Hid (∀ W : World, (W.cell? ⟨wr.heap.size, 0, none⟩ = some (.int .i64 zi) ∧ W.cell? ⟨wr.heap.size, 1, none⟩ = some (.int .i64 zn) ∧ W.cell? ⟨wr.heap.size, 2, none⟩ = some (.int .i64 zs) ∧ Pure Wd W) → Pure Wd W) := fun W h => h.2.2.2
          go_wp2_with fail
          rw [← hWd]
          clear hWd x0 x1 x2
          refine wp_region_held_drew (S := (fun W => W.cell? ⟨wr.heap.size, 0, none⟩ = some (.int .i64 zi) ∧ W.cell? ⟨wr.heap.size, 1, none⟩ = some (.int .i64 zn) ∧ W.cell? ⟨wr.heap.size, 2, none⟩ = some (.int .i64 zs) ∧ Pure Wd W)) (by kernel_rfl) ?_ (fun hHeld => ?_)
          · first | assumption | with_reducible exact hst.out | with_reducible exact hS.out _ (Pure.then_ (hS2.out _ (by assumption)) (by assumption))
          refine tkA 0 ?_
          refine wpAnyH_ready (rs := [1]) (by kernel_rfl) (by simp) ?_
          refine AllReadyH.cons rfl (fun K hK => ?_) AllReadyH.nil
          (try simp only [List.getElem_toArray, List.getElem_cons_succ, List.getElem_cons_zero])
          go_simp
          go_at_call 190; (with_reducible refine (hmy.out _).mono ?_); rintro e w7 ⟨rfl, hp7⟩; go_wp2_with fail
          refine hK.out _ _ ?_ (fun hHeld => ?_)
          · first | assumption | with_reducible exact hst.out | with_reducible exact hS.out _ (Pure.then_ (hS2.out _ (by assumption)) (by assumption))
          clear hK K
          try simp only [Act.put, List.setIfInBounds_toArray, List.set_cons_zero, List.set_cons_succ, List.getElem_toArray, List.getElem_cons_succ, List.getElem_cons_zero]
          refine tkA 2 ?_
          refine tkA 3 ?_
          refine tkU 4 ?_
          refine tkU 5 ?_
          refine tkU 6 ?_
          refine tkU 7 ?_
          refine tkU 8 ?_
          refine tkU 9 ?_
          refine tkU 10 ?_
          refine tkU 11 ?_
          refine tkU 12 ?_
          refine tkU 13 ?_
          refine tkU 14 ?_
          refine tkU 15 ?_
          refine tkU 16 ?_
          refine tkA 17 ?_
          refine wpAnyH_done (by kernel_rfl) ?_ _
          have hx := hid (hS2.out w7 (by assumption))
          go_wp2
          go_ret
          exact ⟨by rw [HF.out]; rfl, Hp.out.then_ (Pure.then_ Hpd.out hx.out)⟩
        | true =>
          by_cases c4 : k = 0
          · subst c4
            have HT := hid (Hyes.out (by rw [Htat.out]; rfl))
            clear Hyes Hno Htat hprev
            simp only [Nat.zero_mul, Nat.add_zero] at x0 x1 x2
            have hS : Hid (∀ W, Pure Wd W → (W.cell? ⟨wr.heap.size, 0, none⟩ = some (.int .i64 zi) ∧ W.cell? ⟨wr.heap.size, 1, none⟩ = some (.int .i64 zn) ∧ W.cell? ⟨wr.heap.size, 2, none⟩ = some (.int .i64 zs) ∧ Pure Wd W)) := fun W hW => by
              have ed := (hW.block _ (lt_of_block Hbd.out)).trans Hbd.out
              exact ⟨cell_of_block ed 0, cell_of_block ed 1, cell_of_block ed 2, hW⟩
            have hst := hid (hS.out Wd.drew (Below.refl _ _).drew)
            have hS2 : Hid (∀ W : World, (W.cell? ⟨wr.heap.size, 0, none⟩ = some (.int .i64 zi) ∧ W.cell? ⟨wr.heap.size, 1, none⟩ = some (.int .i64 zn) ∧ W.cell? ⟨wr.heap.size, 2, none⟩ = some (.int .i64 zs) ∧ Pure Wd W) → Pure Wd W) := fun W h => h.2.2.2
            go_wp2_with fail
            rw [← hWd]
            clear hWd x0 x1 x2
            refine wp_region_held_drew (S := (fun W => W.cell? ⟨wr.heap.size, 0, none⟩ = some (.int .i64 zi) ∧ W.cell? ⟨wr.heap.size, 1, none⟩ = some (.int .i64 zn) ∧ W.cell? ⟨wr.heap.size, 2, none⟩ = some (.int .i64 zs) ∧ Pure Wd W)) (by kernel_rfl) ?_ (fun hHeld => ?_)
            · first | assumption | with_reducible exact hst.out | with_reducible exact hS.out _ (Pure.then_ (hS2.out _ (by assumption)) (by assumption))
            refine tkA 0 ?_
            refine wpAnyH_ready (rs := [1]) (by kernel_rfl) (by simp) ?_
            refine AllReadyH.cons rfl (fun K hK => ?_) AllReadyH.nil
            (try simp only [List.getElem_toArray, List.getElem_cons_succ, List.getElem_cons_zero])
            go_simp
            go_at_call 190; (with_reducible refine (hmy.out _).mono ?_); rintro e w7 ⟨rfl, hp7⟩; go_wp2_with fail
            refine hK.out _ _ ?_ (fun hHeld => ?_)
            · first | assumption | with_reducible exact hst.out | with_reducible exact hS.out _ (Pure.then_ (hS2.out _ (by assumption)) (by assumption))
            clear hK K
            try simp only [Act.put, List.setIfInBounds_toArray, List.set_cons_zero, List.set_cons_succ, List.getElem_toArray, List.getElem_cons_succ, List.getElem_cons_zero]
            refine tkA 2 ?_
            refine tkA 3 ?_
            refine tkA 4 ?_
            refine tkA 5 ?_
            refine tkA 6 ?_
            refine tkU 7 ?_
            refine tkU 8 ?_
            refine tkU 9 ?_
            refine tkU 10 ?_
            refine tkU 11 ?_
            refine tkU 12 ?_
            refine tkU 13 ?_
            refine tkU 14 ?_
            refine tkU 15 ?_
            refine tkA 16 ?_
            refine tkA 17 ?_
            refine wpAnyH_done (by kernel_rfl) ?_ _
            have hx := hid (hS2.out w7 (by assumption))
            go_wp2
            go_roundw
            case rel => exact ⟨0 + 1, by omega, by go_num, HT.out, Hp.out.then_ (Pure.then_ Hpd.out hx.out)⟩
            case measure => simp [RowKit.intOf]; omega
          · have h0' : decide ((k : Int) > 0) = true := decide_eq_true (by omega)
            have h0'' : decide (0 < k) = true := decide_eq_true (by omega)
            have hsub : IntKind.i64.wrap ((k : Int) - 1) = ((k - 1 : Nat) : Int) := by rw [IntWalk.i64_in _ (by omega)]; omega
            have hsub2 : (k : Int) - 1 = ((k - 1 : Nat) : Int) := by omega
            have hlt2 : ((k - 1 : Nat) : Int) < (l.length : Int) := by omega
            have y0 := hprev.out (by omega)
            have hn : (0 : Int) ≤ ((k - 1 : Nat) : Int) := by omega
            have HT' := hid (fun (e : yi < zi) => Hyes.out (by rw [Htat.out, decide_eq_true e, Bool.or_true]; rfl))
            have HF' := hid (fun (e : ¬ yi < zi) => Hno.out (by rw [Htat.out, decide_eq_false e, decide_eq_false c4]; rfl))
            have hwm : IntKind.i64.wrap ((k - 1 : Nat) : Int) = ((k - 1 : Nat) : Int) := IntWalk.i64_in _ (by omega)
            clear Hyes Hno Htat hprev
            by_cases hD : yi < zi
            · have HT := hid (HT'.out hD)
              have hD1 : decide (yi ≥ zi) = false := decide_eq_false (by omega)
              have hD2 : decide (zi ≤ yi) = false := decide_eq_false (by omega)
              clear HT' HF'
              have hS : Hid (∀ W, Pure Wd W → (W.cell? ⟨wr.heap.size, 0, none⟩ = some (.int .i64 zi) ∧ W.cell? ⟨wr.heap.size, 1, none⟩ = some (.int .i64 zn) ∧ W.cell? ⟨wr.heap.size, 2, none⟩ = some (.int .i64 zs) ∧ W.cell? ⟨b, off + (k - 1) * 3, none⟩ = some (.int .i64 yi) ∧ Pure Wd W)) := fun W hW => by
                have ed := (hW.block _ (lt_of_block Hbd.out)).trans Hbd.out
                exact ⟨cell_of_block ed 0, cell_of_block ed 1, cell_of_block ed 2, (Hwb.out W hW).trans y0, hW⟩
              have hst := hid (hS.out Wd.drew (Below.refl _ _).drew)
              have hS2 : Hid (∀ W : World, (W.cell? ⟨wr.heap.size, 0, none⟩ = some (.int .i64 zi) ∧ W.cell? ⟨wr.heap.size, 1, none⟩ = some (.int .i64 zn) ∧ W.cell? ⟨wr.heap.size, 2, none⟩ = some (.int .i64 zs) ∧ W.cell? ⟨b, off + (k - 1) * 3, none⟩ = some (.int .i64 yi) ∧ Pure Wd W) → Pure Wd W) := fun W h => h.2.2.2.2
              generalize hj : k - 1 = j at *
              go_wp2_with fail
              rw [← hWd]
              clear hWd x0 x1 x2
              refine wp_region_held_drew (S := (fun W => W.cell? ⟨wr.heap.size, 0, none⟩ = some (.int .i64 zi) ∧ W.cell? ⟨wr.heap.size, 1, none⟩ = some (.int .i64 zn) ∧ W.cell? ⟨wr.heap.size, 2, none⟩ = some (.int .i64 zs) ∧ W.cell? ⟨b, off + j * 3, none⟩ = some (.int .i64 yi) ∧ Pure Wd W)) (by kernel_rfl) ?_ (fun hHeld => ?_)
              · first | assumption | with_reducible exact hst.out | with_reducible exact hS.out _ (Pure.then_ (hS2.out _ (by assumption)) (by assumption))
              refine tkA 0 ?_
              refine wpAnyH_ready (rs := [1]) (by kernel_rfl) (by simp) ?_
              refine AllReadyH.cons rfl (fun K hK => ?_) AllReadyH.nil
              (try simp only [List.getElem_toArray, List.getElem_cons_succ, List.getElem_cons_zero])
              go_simp
              go_at_call 190; (with_reducible refine (hmy.out _).mono ?_); rintro e w7 ⟨rfl, hp7⟩; go_wp2_with fail
              refine hK.out _ _ ?_ (fun hHeld => ?_)
              · first | assumption | with_reducible exact hst.out | with_reducible exact hS.out _ (Pure.then_ (hS2.out _ (by assumption)) (by assumption))
              clear hK K
              try simp only [Act.put, List.setIfInBounds_toArray, List.set_cons_zero, List.set_cons_succ, List.getElem_toArray, List.getElem_cons_succ, List.getElem_cons_zero]
              refine tkA 2 ?_
              refine tkA 3 ?_
              refine tkA 4 ?_
              refine tkA 5 ?_
              refine tkA 6 ?_
              refine tkA 7 ?_
              refine tkA 8 ?_
              refine tkA 9 ?_
              refine tkA 10 ?_
              refine tkA 11 ?_
              refine tkA 12 ?_
              refine tkA 13 ?_
              refine tkA 14 ?_
              refine tkA 15 ?_
              refine tkA 16 ?_
              refine tkA 17 ?_
              refine wpAnyH_done (by kernel_rfl) ?_ _
              have hx := hid (hS2.out w7 (by assumption))
              go_wp2
              go_roundw
              case rel => exact ⟨k + 1, by omega, by go_num, HT.out, Hp.out.then_ (Pure.then_ Hpd.out hx.out)⟩
              case measure => simp [RowKit.intOf]; omega
            · have HF := hid (HF'.out hD)
              have hD1 : decide (yi ≥ zi) = true := decide_eq_true (by omega)
              have hD2 : decide (zi ≤ yi) = true := decide_eq_true (by omega)
              clear HT' HF'
              have hS : Hid (∀ W, Pure Wd W → (W.cell? ⟨wr.heap.size, 0, none⟩ = some (.int .i64 zi) ∧ W.cell? ⟨wr.heap.size, 1, none⟩ = some (.int .i64 zn) ∧ W.cell? ⟨wr.heap.size, 2, none⟩ = some (.int .i64 zs) ∧ W.cell? ⟨b, off + (k - 1) * 3, none⟩ = some (.int .i64 yi) ∧ Pure Wd W)) := fun W hW => by
                have ed := (hW.block _ (lt_of_block Hbd.out)).trans Hbd.out
                exact ⟨cell_of_block ed 0, cell_of_block ed 1, cell_of_block ed 2, (Hwb.out W hW).trans y0, hW⟩
              have hst := hid (hS.out Wd.drew (Below.refl _ _).drew)
              have hS2 : Hid (∀ W : World, (W.cell? ⟨wr.heap.size, 0, none⟩ = some (.int .i64 zi) ∧ W.cell? ⟨wr.heap.size, 1, none⟩ = some (.int .i64 zn) ∧ W.cell? ⟨wr.heap.size, 2, none⟩ = some (.int .i64 zs) ∧ W.cell? ⟨b, off + (k - 1) * 3, none⟩ = some (.int .i64 yi) ∧ Pure Wd W) → Pure Wd W) := fun W h => h.2.2.2.2
              generalize hj : k - 1 = j at *
              go_wp2_with fail
              rw [← hWd]
              clear hWd x0 x1 x2
              refine wp_region_held_drew (S := (fun W => W.cell? ⟨wr.heap.size, 0, none⟩ = some (.int .i64 zi) ∧ W.cell? ⟨wr.heap.size, 1, none⟩ = some (.int .i64 zn) ∧ W.cell? ⟨wr.heap.size, 2, none⟩ = some (.int .i64 zs) ∧ W.cell? ⟨b, off + j * 3, none⟩ = some (.int .i64 yi) ∧ Pure Wd W)) (by kernel_rfl) ?_ (fun hHeld => ?_)
              · first | assumption | with_reducible exact hst.out | with_reducible exact hS.out _ (Pure.then_ (hS2.out _ (by assumption)) (by assumption))
              refine tkA 0 ?_
              refine wpAnyH_ready (rs := [1]) (by kernel_rfl) (by simp) ?_
              refine AllReadyH.cons rfl (fun K hK => ?_) AllReadyH.nil
              (try simp only [List.getElem_toArray, List.getElem_cons_succ, List.getElem_cons_zero])
              go_simp
              go_at_call 190; (with_reducible refine (hmy.out _).mono ?_); rintro e w7 ⟨rfl, hp7⟩; go_wp2_with fail
              refine hK.out _ _ ?_ (fun hHeld => ?_)
              · first | assumption | with_reducible exact hst.out | with_reducible exact hS.out _ (Pure.then_ (hS2.out _ (by assumption)) (by assumption))
              clear hK K
              try simp only [Act.put, List.setIfInBounds_toArray, List.set_cons_zero, List.set_cons_succ, List.getElem_toArray, List.getElem_cons_succ, List.getElem_cons_zero]
              refine tkA 2 ?_
              refine tkA 3 ?_
              refine tkA 4 ?_
              refine tkA 5 ?_
              refine tkA 6 ?_
              refine tkA 7 ?_
              refine tkA 8 ?_
              refine tkA 9 ?_
              refine tkA 10 ?_
              refine tkA 11 ?_
              refine tkA 12 ?_
              refine tkA 13 ?_
              refine tkA 14 ?_
              refine tkA 15 ?_
              refine tkA 16 ?_
              refine tkA 17 ?_
              refine wpAnyH_done (by kernel_rfl) ?_ _
              have hx := hid (hS2.out w7 (by assumption))
              go_wp2
              go_ret
              exact ⟨by rw [HF.out]; rfl, Hp.out.then_ (Pure.then_ Hpd.out hx.out)⟩
      · have hlt' : ¬ (k : Int) < (l.length : Int) := by omega
        obtain rfl : k = l.length := by omega
        have HT := hid (HE.out Hal.out)
        go_wp2
        go_ret
        exact ⟨by rw [HT.out]; rfl, Hp.out⟩
  · have hC2 : C = false := by rw [hC]; unfold vchk; rw [decide_eq_false h100]; rfl
    subst hC2
    have h100' : (l.length : Int) > 64 := by omega
    go_enter Tryz.func149, Tryz.ntmps149
    go_wp2
    go_ret
    exact ⟨rfl, Below.refl _ _⟩
end Go.Proofs.YtdlpnhfgjficgaaGreat

namespace Go.Proofs.YtdlpnhfgjficgaaGreat
open Go.RowKit Go.Maps Go.Shelf

theorem own_append_p {ops : Array Oper} {rest : List Oper} {o : Oper} {a : Act} {Q : Exit → Act → World → Prop} {w : World} (hgd : o.guard = none) (s x : Operand)
    (ho : o.op = .call { callee := .builtin .append, args := #[s, x], argTypes := #[50, 50] }) (base : Nat) (v : Value) (xs : List Pr) (n : Nat) (hs : a.eval s = v)
    (hown : w.ownsRow base 92 3 v n (gvs pcells xs)) (u : Value) (k : List Pr) (m : Nat) (hx : a.eval x = u) (hu : Row w u m 3 (gvs pcells k)) (hlen : n + m ≤ 1000000) (hbase : base ≤ w.heap.size)
    (h : ∀ v' w', w'.ownsRow base 92 3 v' (n + m) (gvs pcells (xs ++ k)) → w.grownBy w' v.ownBlock → wpList Tryz.prog ops Q rest (a.put o.dst v') w') : wpList Tryz.prog ops Q (o :: rest) a w := by
  obtain ⟨i0, hi, hz0, hz1, hz2⟩ := info_parts infoPeer
  exact wpList_append_rows hgd s x _ ho base 92 i0 _ 3 24 Tryz.underlying50 hi hz0 hz1 hz2 rfl (by decide) (by decide) v n (gvs pcells xs) hs hown u m (gvs pcells k) hx hu (pvs_one k) hlen hbase (fun v' w' q1 q2 => h v' w' (by rw [gvs_append]; exact q1) q2)
theorem peers_lit (w : World) (t : Pr) : Row (w.alloc (.cells #[.int .i64 t.id, .int .i64 t.inc, .int .i64 t.st] 92)) (.slice (some ⟨w.heap.size, 0, none⟩) 1 1) 1 3 (gvs pcells [t]) := lit_g w 92 t 3 rfl rfl
theorem rdPeer_none : (rdPeer none).2 = none := rfl
theorem GRow.peers {w : World} {v : Value} {l : List Pr} (h : GRow pcells 3 w v l) : Peers w v l := h
set_option maxRecDepth 8000 in
set_option maxHeartbeats 4000000 in
theorem vread_any (b : Nat) (s : RS) (w : World) (h : RdAt 117 b s w) :
    Calls Tryz.prog 95 #[.pointer (some ⟨b, 0, none⟩)] w (RdRowG pcells 3 117 b (rdView s).1 (rdView s).2 w) := by
  have Hb := hid h.lt
  have hi1 := hid (mintr_any b s 64 w h (by decide) (by decide))
  have hbd := rdInt_bd 64 s
  have hz := rdInt_zero 64 s
  have Hr : Hid (rdView s = match rdItems rdPeer (rdInt 64 s).1.toNat [] (rdInt 64 s).2 with
    | (_, none) => ([], none)
    | (l, some r) => if vchk l then (l, some r) else ([], none)) := (show _ = _ from rfl)
  have hfine := hid (fun s W (hW : RdAt 117 b s W) => fine_any b s W hW)
  have h40 := hid (fun s W (hW : RdAt 117 b s W) => mintr_any b s 1099511627776 W hW (by decide) (by decide))
  have h30 := hid (fun s W (hW : RdAt 117 b s W) => mintr_any b s 1073741824 W hW (by decide) (by decide))
  have h2 := hid (fun s W (hW : RdAt 117 b s W) => mintr_any b s 2 W hW (by decide) (by decide))
  have hneg := hid (fun s W (hW : RdAt 117 b s W) => (show Calls _ _ _ _ _ from by have := mintr_any b s (-1) W hW (by decide) (by decide); rw [rdInt_neg (-1) (by decide)] at this; exact this))
  have hchk := hid (fun v l W (hW : GRow pcells 3 W v l) hl => vchk_any v l W hW hl)
  have Hw := hid (show RdOwn pcells 3 92 117 b (.slice none 0 0) [] s w w from ⟨RdK.start h, World.ownsRow_nil _ _ _ _, h.lt⟩)
  unfold RdP at hi1 h40 h30 h2 hneg
  generalize rdView s = R at *
  generalize rdInt 64 s = N1 at *
  obtain ⟨x, s1⟩ := N1
  dsimp only at hi1 hbd Hr hz
  obtain ⟨n, rfl⟩ : ∃ n : Nat, x = n := ⟨x.toNat, by omega⟩
  have Hr2 := hid Hr.out
  rw [Int.toNat_natCast] at Hr2
  have Hst := hid (RdIn.start rdPeer n s1 (fun e => by have := hz e; omega))
  obtain ⟨total, htot⟩ : ∃ t, t = rdItems rdPeer n [] s1 := ⟨_, rfl⟩
  rw [← htot] at Hr2 Hst
  have hbn := hbd.2 (by omega)
  clear h hbd Hr htot hz
  go_enter Tryz.func95, Tryz.ntmps95
  go_wp2_with fail
  refine hi1.out.mono ?_
  rintro e w1 ⟨rfl, hr1, hk1⟩
  have H1 := hid (Hw.out.next hr1 hk1)
  clear hr1 hk1
  go_wp2_with fail
  go_loopw [3, 7] (fun v i wr => ∃ (k : Nat) (acc : List Pr) (s : RS), i = .int .i64 k ∧ k ≤ n ∧ acc.length = k ∧ RdOwn pcells 3 92 117 b v acc s w wr ∧ RdIn rdPeer total (n - k) acc s) (fun _ i _ => n - (RowKit.intOf i).toNat)
  case atStart => exact ⟨0, [], s1, rfl, Nat.zero_le _, rfl, H1.out, Hst.out⟩
  case round =>
    obtain ⟨k, acc, s, rfl, hkn, hlen, hI, hin⟩ := hrel
    have HI := hid hI
    have Hin := hid hin
    have Hlen := hid hlen
    have hl100 : acc.length ≤ 64 := by omega
    obtain ⟨a, c, rfl⟩ := own_shape_d hI.own
    clear hI hin hlen
    by_cases hlt : k < n
    · have hlt' : (k : Int) < (n : Int) := by omega
      have Hstep := hid (RdIn.step (m := n - (k + 1)) rdPeer_none (by have := Hin.out; rw [show n - k = (n - (k + 1)) + 1 by omega] at this; exact this))
      have hM : rdPeer s = (⟨(rdInt 1099511627776 s).1, (rdInt 1073741824 (rdInt 1099511627776 s).2).1, (rdInt 2 (rdInt 1073741824 (rdInt 1099511627776 s).2).2).1⟩, (rdInt 2 (rdInt 1073741824 (rdInt 1099511627776 s).2).2).2) := rfl
      rw [hM] at Hstep
      have g1 := hid (h40.out s)
      have g2 := hid (h30.out (rdInt 1099511627776 s).2)
      have g3 := hid (h2.out (rdInt 1073741824 (rdInt 1099511627776 s).2).2)
      clear hM
      generalize rdInt 2 (rdInt 1073741824 (rdInt 1099511627776 s).2).2 = N3 at *
      generalize rdInt 1073741824 (rdInt 1099511627776 s).2 = N2 at *
      generalize rdInt 1099511627776 s = N1 at *
      obtain ⟨qi, t1⟩ := N1
      obtain ⟨qn, t2⟩ := N2
      obtain ⟨qs, t3⟩ := N3
      dsimp only at g1 g2 g3 Hstep
      go_wp2_with fail
      refine (g1.out wr HI.out.r.r).mono ?_
      rintro e w3 ⟨rfl, hr3, hk3⟩
      have I3 := hid (HI.out.next hr3 hk3)
      obtain ⟨y3, hy3⟩ : ∃ y3, y3 = w3.alloc (.cells #[.int .i64 qi, .int .i64 0, .int .i64 0] 92) := ⟨_, rfl⟩
      have J3 := hid (show RdOwn pcells 3 92 117 b (.slice a acc.length c) acc t1 w y3 from by rw [hy3]; exact I3.out.alloc _)
      have M3 := hid (show y3.heap[w3.heap.size]? = some (.cells #[.int .i64 qi, .int .i64 0, .int .i64 0] 92 (0, 0)) from by rw [hy3]; exact block_alloc_new _ _)
      have nm := hid (show w.heap.size ≤ w3.heap.size ∧ (∀ j, (Value.slice a acc.length c).ownBlock = some j → j ≠ w3.heap.size) from ⟨I3.out.r.k.size, fun j hj e => by have := (I3.out.own.lt j hj).2; omega⟩)
      clear hr3 hk3 I3 g1
      go_wp2_with fail
      rw [← hy3]
      clear hy3
      generalize w3.heap.size = m at *
      refine (g2.out y3 J3.out.r.r).mono ?_
      rintro e w4 ⟨rfl, hr4, hk4⟩
      have I4 := hid (J3.out.next hr4 hk4)
      have M4' := hid (block_kept M3.out hk4 (by have := nm.out.1; have := J3.out.wb; omega))
      have e1 := cell_of_block M4'.out 1
      have f1 := free_of_block M4'.out 1
      simp at e1
      obtain ⟨y4, hy4⟩ : ∃ y4, y4 = w4.setCell ⟨m, 1, none⟩ (.int .i64 qn) := ⟨_, rfl⟩
      have J4 := hid (show RdOwn pcells 3 92 117 b (.slice a acc.length c) acc t2 w y4 from by rw [hy4]; exact I4.out.set nm.out.1 nm.out.2 _)
      have M4 := hid (show y4.heap[m]? = some (.cells #[.int .i64 qi, .int .i64 qn, .int .i64 0] 92 (0, 0)) from by rw [hy4]; have := block_setCell M4'.out 1 (.int .i64 qn); simpa using this)
      clear hr4 hk4 I4 M4' J3 M3 g2
      go_wp2_with fail
      rw [← hy4]
      clear hy4 e1 f1
      refine (g3.out y4 J4.out.r.r).mono ?_
      rintro e w5 ⟨rfl, hr5, hk5⟩
      have I5 := hid (J4.out.next hr5 hk5)
      have M5' := hid (block_kept M4.out hk5 (by have := nm.out.1; have := J4.out.wb; omega))
      have e1 := cell_of_block M5'.out 2
      have f1 := free_of_block M5'.out 2
      simp at e1
      obtain ⟨y5, hy5⟩ : ∃ y5, y5 = w5.setCell ⟨m, 2, none⟩ (.int .i64 qs) := ⟨_, rfl⟩
      have J5 := hid (show RdOwn pcells 3 92 117 b (.slice a acc.length c) acc t3 w y5 from by rw [hy5]; exact I5.out.set nm.out.1 nm.out.2 _)
      have M5 := hid (show y5.heap[m]? = some (.cells #[.int .i64 qi, .int .i64 qn, .int .i64 qs] 92 (0, 0)) from by rw [hy5]; have := block_setCell M5'.out 2 (.int .i64 qs); simpa using this)
      clear hr5 hk5 I5 M5' J4 M4 g3
      go_upto_region 7 with fail
      rw [← hy5]
      clear hy5 e1 f1
      have g0 := cell_of_block M5.out 0
      have g1 := cell_of_block M5.out 1
      have g2 := cell_of_block M5.out 2
      simp at g0 g1 g2
      have hs6 : w.heap.size ≤ (y5.alloc (.cells #[.int .i64 qi, .int .i64 qn, .int .i64 qs] 92)).heap.size := by have := J5.out.r.k.size; simp; omega
      go_wp2_with (at_builtin; refine own_append_p rfl _ _ rfl w.heap.size _ acc acc.length rfl (J5.out.own.alloc _) _ [(⟨qi, qn, qs⟩ : Pr)] 1 rfl (peers_lit y5 (⟨qi, qn, qs⟩ : Pr)) (by omega) hs6 ?_)
      intro v7 w7 hown7 hg7
      have Hown7 := hid (show w7.ownsRow w.heap.size 92 3 v7 (acc ++ [(⟨qi, qn, qs⟩ : Pr)]).length (gvs pcells (acc ++ [(⟨qi, qn, qs⟩ : Pr)])) from by rw [List.length_append]; exact hown7)
      have J9 := hid ((J5.out.alloc _).grow hg7 Hown7.out)
      obtain ⟨a7, c7, rfl⟩ := own_shape_d hown7
      clear hown7 hg7 g0 g1 g2 hs6
      go_wp2
      go_roundw
      case rel => exact ⟨k + 1, acc ++ [⟨qi, qn, qs⟩], t3, by go_num, by omega, by simp [Hlen.out], J9.out, Hstep.out⟩
      case measure => simp [RowKit.intOf]; omega
    · obtain rfl : k = n := by omega
      have hlt' : ¬ (k : Int) < (k : Int) := by omega
      have Htt := hid (RdIn.fin (by have := Hin.out; rw [Nat.sub_self] at this; exact this))
      go_wp2_with fail
      refine (hfine.out s wr HI.out.r.r).mono ?_
      rintro e w3 ⟨rfl, hp3⟩
      have J3 := hid (HI.out.pure hp3)
      clear hp3
      cases s with
      | none =>
        have HR := hid (show R = ([], none) from by rw [Hr2.out, Htt.out])
        go_wp2_with fail
        refine (hneg.out none w3 J3.out.r.r).mono ?_
        rintro e w5 ⟨rfl, hr5, hk5⟩
        have J5 := hid (J3.out.next hr5 hk5)
        clear hr5 hk5
        go_wp2
        go_ret
        exact J5.out.none_ (by rw [HR.out]) (by rw [HR.out])
      | some r =>
        have HRr := hid (show R = if vchk acc then (acc, some r) else ([], none) from by rw [Hr2.out, Htt.out])
        have hcb := hid (hchk.out _ _ w3 J3.out.row (by omega))
        unfold er1 at hcb
        generalize vchk acc = V at *
        go_wp2_with fail
        refine hcb.out.mono ?_
        rintro e w4 ⟨rfl, hp4⟩
        have J4 := hid (J3.out.pure hp4)
        clear hp4
        cases V with
        | false =>
          have HR := hid (show R = ([], none) from HRr.out)
          go_wp2_with fail
          refine (hneg.out (some r) w4 J4.out.r.r).mono ?_
          rintro e w5 ⟨rfl, hr5, hk5⟩
          have J5 := hid (J4.out.next hr5 hk5)
          clear hr5 hk5
          go_wp2
          go_ret
          exact J5.out.none_ (by rw [HR.out]) (by rw [HR.out])
        | true =>
          have HR := hid (show R = (acc, some r) from HRr.out)
          go_wp2
          go_ret
          exact J4.out.done (by rw [HR.out]) (by rw [HR.out])
end Go.Proofs.YtdlpnhfgjficgaaGreat

