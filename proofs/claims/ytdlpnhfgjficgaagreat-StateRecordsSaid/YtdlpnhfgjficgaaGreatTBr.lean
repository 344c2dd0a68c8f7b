/- A catalogue checked: the document. -/
import Derived.Test.YtdlpnhfgjficgaaGreatMBs
import Derived.Test.YtdlpnhfgjficgaaGreatMTx
import Derived.Deep.RegionHeld3
namespace Go.Proofs.YtdlpnhfgjficgaaGreat
open Go.RowKit Go.Maps Go.Shelf

set_option maxRecDepth 8000 in
set_option maxHeartbeats 4000000 in
theorem rtchk_any (v : Value) (l : List Tag) (w : World) (hr : Tags w v l) (hl : l.length ≤ 100000) :
    Calls Tryz.prog 116 #[v] w fun e w' => e = .returned (.int .i64 (er1 (tchk l))) ∧ Pure w w' := by
  obtain ⟨a, cap, rfl⟩ := hr.shape
  obtain ⟨C, hC⟩ : ∃ C, C = tchk l := ⟨_, rfl⟩
  rw [← hC]
  by_cases h100 : l.length ≤ 100
  · have HB := hid (show ∀ k, k < l.length → tat l k = false → C = false from fun k h e => by rw [hC]; unfold tchk; rw [allB_false h e, Bool.and_false])
    have HE := hid (show allB l.length (tat l) = true → C = true from fun h => by rw [hC]; unfold tchk; rw [h, decide_eq_true h100]; rfl)
    have Hr := hid hr
    have hmay := hid (fun s W => (rnmay_any s W).mono (R' := fun e w' => e = .returned (.bool (nmay s)) ∧ W = w') (fun e w' h => ⟨h.1, h.2.symm⟩))
    have h100' : ¬ (l.length : Int) > 100 := by omega
    clear hr hC
    go_enter Tryz.func116, Tryz.ntmps116
    go_wp2_with fail
    go_loopw [3] (fun i wr => ∃ k : Nat, k ≤ l.length ∧ i = .int .i64 k ∧ allB k (tat l) = true ∧ Pure w wr) (fun i _ => l.length - (RowKit.intOf i).toNat)
    case atStart => exact ⟨0, Nat.zero_le _, rfl, rfl, Below.refl _ _⟩
    case round =>
      obtain ⟨k, hk, rfl, hal, hp⟩ := hrel
      have Hal := hid hal
      have Hp := hid hp
      clear hal
      by_cases hlt : k < l.length
      · have hlt' : (k : Int) < (l.length : Int) := by omega
        have hk0 : (0 : Int) ≤ (k : Int) := by omega
        have Hrow := hid (show Tags wr (.slice a l.length cap) l from Row.pure Hr.out hp)
        obtain ⟨b, off, rfl, hb, x0, x1⟩ := Tags.get Hrow.out hlt
        have Hno := hid (fun (e : tat l k = false) => HB.out k hlt e)
        have Hyes := hid (fun (e : tat l k = true) => allB_next Hal.out e)
        have Htat := hid (tat_of l k)
        have hprev := hid (fun (h0 : 0 < k) => (show wr.cell? ⟨b, off + (k - 1) * 2, none⟩ = some (.string (bs (l.getD (k - 1) t0).1)) from by
          obtain ⟨b', off', e', _, y0, _⟩ := Tags.get Hrow.out (show k - 1 < l.length by omega)
          cases e'; exact y0))
        have hmy := hid (hmay.out (l.getD k t0).1)
        have hge := hid (show Op.bytesLess (bs (l.getD (k - 1) t0).1).toList (bs (l.getD k t0).1).toList = tlt (l.getD (k - 1) t0).1 (l.getD k t0).1 from by rw [bs_listt, bs_listt]; rfl)
        generalize l.getD (k - 1) t0 = y at *
        generalize l.getD k t0 = z at *
        obtain ⟨zs, zn⟩ := z
        obtain ⟨ys, yn⟩ := y
        dsimp only at x0 x1 Htat hmy hprev hge
        clear hp
        generalize nmay zs = D1 at *
        generalize tlt ys zs = D4 at *
        cases D1 with
        | false =>
          have HF := hid (Hno.out (by rw [Htat.out]; rfl))
          clear Hyes Hno Htat hprev hge
          have hS : Hid (∀ W, Pure wr W → (W.cell? ⟨b, off + k * 2, none⟩ = some (.string (bs zs)) ∧ W.cell? ⟨b, off + k * 2 + 1, none⟩ = some (.int .i64 zn) ∧ Pure wr W)) := fun W hW => by
            exact ⟨(hW.cell hb).trans x0, (hW.cell hb).trans x1, hW⟩
          have hst := hid (hS.out wr.drew (Below.refl _ _).drew)
          have hS2 : Hid (∀ W : World, (W.cell? ⟨b, off + k * 2, none⟩ = some (.string (bs zs)) ∧ W.cell? ⟨b, off + k * 2 + 1, none⟩ = some (.int .i64 zn) ∧ Pure wr W) → Pure wr W) := fun W h => h.2.2
          go_wp2_with (go_at_call 164; refine (hmy.out _).mono ?_; rintro e w1 ⟨rfl, rfl⟩)
          refine wp_region_held_drew (S := (fun W => W.cell? ⟨b, off + k * 2, none⟩ = some (.string (bs zs)) ∧ W.cell? ⟨b, off + k * 2 + 1, none⟩ = some (.int .i64 zn) ∧ Pure wr W)) (by kernel_rfl) ?_ (fun hHeld => ?_)
          · first | assumption | with_reducible exact hst.out | with_reducible exact hS.out _ (Pure.then_ (hS2.out _ (by assumption)) (by assumption))
          refine tkA 0 ?_
          refine tkA 1 ?_
          refine tkA 2 ?_
          refine tkU 3 ?_
          refine tkU 4 ?_
          refine tkU 5 ?_
          refine tkU 6 ?_
          refine tkU 7 ?_
          refine tkU 8 ?_
          refine tkA 9 ?_
          refine tkA 10 ?_
          refine tkU 11 ?_
          refine tkU 12 ?_
          refine tkU 13 ?_
          refine tkU 14 ?_
          refine tkU 15 ?_
          refine tkU 16 ?_
          refine tkA 17 ?_
          refine tkA 18 ?_
          refine tkU 19 ?_
          refine tkU 20 ?_
          refine tkU 21 ?_
          refine tkU 22 ?_
          refine tkU 23 ?_
          refine tkU 24 ?_
          refine tkU 25 ?_
          refine tkU 26 ?_
          refine tkU 27 ?_
          refine tkU 28 ?_
          refine tkU 29 ?_
          refine tkU 30 ?_
          refine tkU 31 ?_
          refine tkU 32 ?_
          refine tkU 33 ?_
          refine tkU 34 ?_
          refine tkA 35 ?_
          refine wpAnyH_done (by kernel_rfl) ?_ _
          have hx := hid (hS2.out _ (by assumption))
          go_wp2
          go_ret
          exact ⟨by rw [HF.out]; rfl, Hp.out.then_ hx.out⟩
        | true =>
          by_cases c2 : 1 ≤ zn
          · have c2' : decide (zn < 1) = false := decide_eq_false (by omega)
            by_cases c3 : zn ≤ 1048576
            · have c3' : decide (zn > 1048576) = false := decide_eq_false (by omega)
              have c3'' : decide (1048576 < zn) = false := decide_eq_false (by omega)
              by_cases c4 : k = 0
              · subst c4
                have HT := hid (Hyes.out (by rw [Htat.out, decide_eq_true c2, decide_eq_true c3]; rfl))
                clear Hyes Hno Htat hprev hge
                simp only [Nat.zero_mul, Nat.add_zero] at x0 x1
                have hS : Hid (∀ W, Pure wr W → (W.cell? ⟨b, off, none⟩ = some (.string (bs zs)) ∧ W.cell? ⟨b, off + 1, none⟩ = some (.int .i64 zn) ∧ Pure wr W)) := fun W hW => by
                  exact ⟨(hW.cell hb).trans x0, (hW.cell hb).trans x1, hW⟩
                have hst := hid (hS.out wr.drew (Below.refl _ _).drew)
                have hS2 : Hid (∀ W : World, (W.cell? ⟨b, off, none⟩ = some (.string (bs zs)) ∧ W.cell? ⟨b, off + 1, none⟩ = some (.int .i64 zn) ∧ Pure wr W) → Pure wr W) := fun W h => h.2.2
                go_wp2_with (go_at_call 164; refine (hmy.out _).mono ?_; rintro e w1 ⟨rfl, rfl⟩)
                refine wp_region_held_drew (S := (fun W => W.cell? ⟨b, off, none⟩ = some (.string (bs zs)) ∧ W.cell? ⟨b, off + 1, none⟩ = some (.int .i64 zn) ∧ Pure wr W)) (by kernel_rfl) ?_ (fun hHeld => ?_)
                · first | assumption | with_reducible exact hst.out | with_reducible exact hS.out _ (Pure.then_ (hS2.out _ (by assumption)) (by assumption))
                refine tkA 0 ?_
                refine tkA 1 ?_
                refine tkA 2 ?_
                refine tkA 3 ?_
                refine tkA 4 ?_
                refine tkA 5 ?_
                refine tkA 6 ?_
                refine tkA 7 ?_
                refine tkA 8 ?_
                refine tkA 9 ?_
                refine tkA 10 ?_
                refine tkA 11 ?_
                refine tkA 12 ?_
                refine tkA 13 ?_
                refine tkA 14 ?_
                refine tkA 15 ?_
                refine tkA 16 ?_
                refine tkA 17 ?_
                refine tkA 18 ?_
                refine tkA 19 ?_
                refine tkA 20 ?_
                refine tkA 21 ?_
                refine tkU 22 ?_
                refine tkU 23 ?_
                refine tkU 24 ?_
                refine tkU 25 ?_
                refine tkU 26 ?_
                refine tkU 27 ?_
                refine tkU 28 ?_
                refine tkU 29 ?_
                refine tkU 30 ?_
                refine tkU 31 ?_
                refine tkU 32 ?_
                refine tkU 33 ?_
                refine tkA 34 ?_
                refine tkA 35 ?_
                refine wpAnyH_done (by kernel_rfl) ?_ _
                have hx := hid (hS2.out _ (by assumption))
                go_wp2
                go_roundw
                case rel => exact ⟨0 + 1, by omega, by go_num, HT.out, Hp.out.then_ hx.out⟩
                case measure => simp [RowKit.intOf]; omega
              · have h0' : decide ((k : Int) > 0) = true := decide_eq_true (by omega)
                have h0'' : decide (0 < k) = true := decide_eq_true (by omega)
                have hsub : IntKind.i64.wrap ((k : Int) - 1) = ((k - 1 : Nat) : Int) := by rw [IntWalk.i64_in _ (by omega)]; omega
                have hsub2 : (k : Int) - 1 = ((k - 1 : Nat) : Int) := by omega
                have hlt2 : ((k - 1 : Nat) : Int) < (l.length : Int) := by omega
                have y0 := hprev.out (by omega)
                have hn : (0 : Int) ≤ ((k - 1 : Nat) : Int) := by omega
                have HT' := hid (fun (e : D4 = true) => Hyes.out (by rw [Htat.out, decide_eq_true c2, decide_eq_true c3, e, Bool.or_true]; rfl))
                have HF' := hid (fun (e : D4 = false) => Hno.out (by rw [Htat.out, e, decide_eq_false c4, Bool.or_false, Bool.and_false, Bool.and_false, Bool.and_false]))
                have hge1 := hge.out
                have hwm : IntKind.i64.wrap ((k - 1 : Nat) : Int) = ((k - 1 : Nat) : Int) := IntWalk.i64_in _ (by omega)
                clear Hyes Hno Htat hprev hge
                cases D4 with
                | true =>
                  have HT := hid (HT'.out rfl)
                  clear HT' HF'
                  have hS : Hid (∀ W, Pure wr W → (W.cell? ⟨b, off + k * 2, none⟩ = some (.string (bs zs)) ∧ W.cell? ⟨b, off + k * 2 + 1, none⟩ = some (.int .i64 zn) ∧ W.cell? ⟨b, off + (k - 1) * 2, none⟩ = some (.string (bs ys)) ∧ Pure wr W)) := fun W hW => by
                    exact ⟨(hW.cell hb).trans x0, (hW.cell hb).trans x1, (hW.cell hb).trans y0, hW⟩
                  have hst := hid (hS.out wr.drew (Below.refl _ _).drew)
                  have hS2 : Hid (∀ W : World, (W.cell? ⟨b, off + k * 2, none⟩ = some (.string (bs zs)) ∧ W.cell? ⟨b, off + k * 2 + 1, none⟩ = some (.int .i64 zn) ∧ W.cell? ⟨b, off + (k - 1) * 2, none⟩ = some (.string (bs ys)) ∧ Pure wr W) → Pure wr W) := fun W h => h.2.2.2
                  generalize hj : k - 1 = j at *
                  go_wp2_with (go_at_call 164; refine (hmy.out _).mono ?_; rintro e w1 ⟨rfl, rfl⟩)
                  refine wp_region_held_drew (S := (fun W => W.cell? ⟨b, off + k * 2, none⟩ = some (.string (bs zs)) ∧ W.cell? ⟨b, off + k * 2 + 1, none⟩ = some (.int .i64 zn) ∧ W.cell? ⟨b, off + j * 2, none⟩ = some (.string (bs ys)) ∧ Pure wr W)) (by kernel_rfl) ?_ (fun hHeld => ?_)
                  · first | assumption | with_reducible exact hst.out | with_reducible exact hS.out _ (Pure.then_ (hS2.out _ (by assumption)) (by assumption))
                  refine tkA 0 ?_
                  refine tkA 1 ?_
                  refine tkA 2 ?_
                  refine tkA 3 ?_
                  refine tkA 4 ?_
                  refine tkA 5 ?_
                  refine tkA 6 ?_
                  refine tkA 7 ?_
                  refine tkA 8 ?_
                  refine tkA 9 ?_
                  refine tkA 10 ?_
                  refine tkA 11 ?_
                  refine tkA 12 ?_
                  refine tkA 13 ?_
                  refine tkA 14 ?_
                  refine tkA 15 ?_
                  refine tkA 16 ?_
                  refine tkA 17 ?_
                  refine tkA 18 ?_
                  refine tkA 19 ?_
                  refine tkA 20 ?_
                  refine tkA 21 ?_
                  refine tkA 22 ?_
                  refine tkA 23 ?_
                  refine tkA 24 ?_
                  refine tkA 25 ?_
                  refine tkA 26 ?_
                  refine tkA 27 ?_
                  refine tkA 28 ?_
                  refine tkA 29 ?_
                  refine tkA 30 ?_
                  refine tkA 31 ?_
                  refine tkA 32 ?_
                  refine tkA 33 ?_
                  refine tkA 34 ?_
                  refine tkA 35 ?_
                  refine wpAnyH_done (by kernel_rfl) ?_ _
                  have hx := hid (hS2.out _ (by assumption))
                  go_wp2
                  go_roundw
                  case rel => exact ⟨k + 1, by omega, by go_num, HT.out, Hp.out.then_ hx.out⟩
                  case measure => simp [RowKit.intOf]; omega
                | false =>
                  have HF := hid (HF'.out rfl)
                  clear HT' HF'
                  have hS : Hid (∀ W, Pure wr W → (W.cell? ⟨b, off + k * 2, none⟩ = some (.string (bs zs)) ∧ W.cell? ⟨b, off + k * 2 + 1, none⟩ = some (.int .i64 zn) ∧ W.cell? ⟨b, off + (k - 1) * 2, none⟩ = some (.string (bs ys)) ∧ Pure wr W)) := fun W hW => by
                    exact ⟨(hW.cell hb).trans x0, (hW.cell hb).trans x1, (hW.cell hb).trans y0, hW⟩
                  have hst := hid (hS.out wr.drew (Below.refl _ _).drew)
                  have hS2 : Hid (∀ W : World, (W.cell? ⟨b, off + k * 2, none⟩ = some (.string (bs zs)) ∧ W.cell? ⟨b, off + k * 2 + 1, none⟩ = some (.int .i64 zn) ∧ W.cell? ⟨b, off + (k - 1) * 2, none⟩ = some (.string (bs ys)) ∧ Pure wr W) → Pure wr W) := fun W h => h.2.2.2
                  generalize hj : k - 1 = j at *
                  go_wp2_with (go_at_call 164; refine (hmy.out _).mono ?_; rintro e w1 ⟨rfl, rfl⟩)
                  refine wp_region_held_drew (S := (fun W => W.cell? ⟨b, off + k * 2, none⟩ = some (.string (bs zs)) ∧ W.cell? ⟨b, off + k * 2 + 1, none⟩ = some (.int .i64 zn) ∧ W.cell? ⟨b, off + j * 2, none⟩ = some (.string (bs ys)) ∧ Pure wr W)) (by kernel_rfl) ?_ (fun hHeld => ?_)
                  · first | assumption | with_reducible exact hst.out | with_reducible exact hS.out _ (Pure.then_ (hS2.out _ (by assumption)) (by assumption))
                  refine tkA 0 ?_
                  refine tkA 1 ?_
                  refine tkA 2 ?_
                  refine tkA 3 ?_
                  refine tkA 4 ?_
                  refine tkA 5 ?_
                  refine tkA 6 ?_
                  refine tkA 7 ?_
                  refine tkA 8 ?_
                  refine tkA 9 ?_
                  refine tkA 10 ?_
                  refine tkA 11 ?_
                  refine tkA 12 ?_
                  refine tkA 13 ?_
                  refine tkA 14 ?_
                  refine tkA 15 ?_
                  refine tkA 16 ?_
                  refine tkA 17 ?_
                  refine tkA 18 ?_
                  refine tkA 19 ?_
                  refine tkA 20 ?_
                  refine tkA 21 ?_
                  refine tkA 22 ?_
                  refine tkA 23 ?_
                  refine tkA 24 ?_
                  refine tkA 25 ?_
                  refine tkA 26 ?_
                  refine tkA 27 ?_
                  refine tkA 28 ?_
                  refine tkA 29 ?_
                  refine tkA 30 ?_
                  refine tkA 31 ?_
                  refine tkA 32 ?_
                  refine tkA 33 ?_
                  refine tkA 34 ?_
                  refine tkA 35 ?_
                  refine wpAnyH_done (by kernel_rfl) ?_ _
                  have hx := hid (hS2.out _ (by assumption))
                  go_wp2
                  go_ret
                  exact ⟨by rw [HF.out]; rfl, Hp.out.then_ hx.out⟩
            · have c3' : decide (zn > 1048576) = true := decide_eq_true (by omega)
              have c3'' : decide (1048576 < zn) = true := decide_eq_true (by omega)
              have HF := hid (Hno.out (by rw [Htat.out, decide_eq_false c3]; simp))
              clear Hyes Hno Htat hprev hge
              have hS : Hid (∀ W, Pure wr W → (W.cell? ⟨b, off + k * 2, none⟩ = some (.string (bs zs)) ∧ W.cell? ⟨b, off + k * 2 + 1, none⟩ = some (.int .i64 zn) ∧ Pure wr W)) := fun W hW => by
                exact ⟨(hW.cell hb).trans x0, (hW.cell hb).trans x1, hW⟩
              have hst := hid (hS.out wr.drew (Below.refl _ _).drew)
              have hS2 : Hid (∀ W : World, (W.cell? ⟨b, off + k * 2, none⟩ = some (.string (bs zs)) ∧ W.cell? ⟨b, off + k * 2 + 1, none⟩ = some (.int .i64 zn) ∧ Pure wr W) → Pure wr W) := fun W h => h.2.2
              go_wp2_with (go_at_call 164; refine (hmy.out _).mono ?_; rintro e w1 ⟨rfl, rfl⟩)
              refine wp_region_held_drew (S := (fun W => W.cell? ⟨b, off + k * 2, none⟩ = some (.string (bs zs)) ∧ W.cell? ⟨b, off + k * 2 + 1, none⟩ = some (.int .i64 zn) ∧ Pure wr W)) (by kernel_rfl) ?_ (fun hHeld => ?_)
              · first | assumption | with_reducible exact hst.out | with_reducible exact hS.out _ (Pure.then_ (hS2.out _ (by assumption)) (by assumption))
              refine tkA 0 ?_
              refine tkA 1 ?_
              refine tkA 2 ?_
              refine tkA 3 ?_
              refine tkA 4 ?_
              refine tkA 5 ?_
              refine tkA 6 ?_
              refine tkA 7 ?_
              refine tkA 8 ?_
              refine tkA 9 ?_
              refine tkA 10 ?_
              refine tkA 11 ?_
              refine tkA 12 ?_
              refine tkA 13 ?_
              refine tkA 14 ?_
              refine tkA 15 ?_
              refine tkA 16 ?_
              refine tkA 17 ?_
              refine tkA 18 ?_
              refine tkU 19 ?_
              refine tkU 20 ?_
              refine tkU 21 ?_
              refine tkU 22 ?_
              refine tkU 23 ?_
              refine tkU 24 ?_
              refine tkU 25 ?_
              refine tkU 26 ?_
              refine tkU 27 ?_
              refine tkU 28 ?_
              refine tkU 29 ?_
              refine tkU 30 ?_
              refine tkU 31 ?_
              refine tkU 32 ?_
              refine tkU 33 ?_
              refine tkU 34 ?_
              refine tkA 35 ?_
              refine wpAnyH_done (by kernel_rfl) ?_ _
              have hx := hid (hS2.out _ (by assumption))
              go_wp2
              go_ret
              exact ⟨by rw [HF.out]; rfl, Hp.out.then_ hx.out⟩
          · have c2' : decide (zn < 1) = true := decide_eq_true (by omega)
            have HF := hid (Hno.out (by rw [Htat.out, decide_eq_false c2]; simp))
            clear Hyes Hno Htat hprev hge
            have hS : Hid (∀ W, Pure wr W → (W.cell? ⟨b, off + k * 2, none⟩ = some (.string (bs zs)) ∧ W.cell? ⟨b, off + k * 2 + 1, none⟩ = some (.int .i64 zn) ∧ Pure wr W)) := fun W hW => by
              exact ⟨(hW.cell hb).trans x0, (hW.cell hb).trans x1, hW⟩
            have hst := hid (hS.out wr.drew (Below.refl _ _).drew)
            have hS2 : Hid (∀ W : World, (W.cell? ⟨b, off + k * 2, none⟩ = some (.string (bs zs)) ∧ W.cell? ⟨b, off + k * 2 + 1, none⟩ = some (.int .i64 zn) ∧ Pure wr W) → Pure wr W) := fun W h => h.2.2
            go_wp2_with (go_at_call 164; refine (hmy.out _).mono ?_; rintro e w1 ⟨rfl, rfl⟩)
            refine wp_region_held_drew (S := (fun W => W.cell? ⟨b, off + k * 2, none⟩ = some (.string (bs zs)) ∧ W.cell? ⟨b, off + k * 2 + 1, none⟩ = some (.int .i64 zn) ∧ Pure wr W)) (by kernel_rfl) ?_ (fun hHeld => ?_)
            · first | assumption | with_reducible exact hst.out | with_reducible exact hS.out _ (Pure.then_ (hS2.out _ (by assumption)) (by assumption))
            refine tkA 0 ?_
            refine tkA 1 ?_
            refine tkA 2 ?_
            refine tkA 3 ?_
            refine tkA 4 ?_
            refine tkA 5 ?_
            refine tkA 6 ?_
            refine tkA 7 ?_
            refine tkA 8 ?_
            refine tkA 9 ?_
            refine tkA 10 ?_
            refine tkU 11 ?_
            refine tkU 12 ?_
            refine tkU 13 ?_
            refine tkU 14 ?_
            refine tkU 15 ?_
            refine tkU 16 ?_
            refine tkA 17 ?_
            refine tkA 18 ?_
            refine tkU 19 ?_
            refine tkU 20 ?_
            refine tkU 21 ?_
            refine tkU 22 ?_
            refine tkU 23 ?_
            refine tkU 24 ?_
            refine tkU 25 ?_
            refine tkU 26 ?_
            refine tkU 27 ?_
            refine tkU 28 ?_
            refine tkU 29 ?_
            refine tkU 30 ?_
            refine tkU 31 ?_
            refine tkU 32 ?_
            refine tkU 33 ?_
            refine tkU 34 ?_
            refine tkA 35 ?_
            refine wpAnyH_done (by kernel_rfl) ?_ _
            have hx := hid (hS2.out _ (by assumption))
            go_wp2
            go_ret
            exact ⟨by rw [HF.out]; rfl, Hp.out.then_ hx.out⟩
      · have hlt' : ¬ (k : Int) < (l.length : Int) := by omega
        obtain rfl : k = l.length := by omega
        have HT := hid (HE.out Hal.out)
        go_wp2
        go_ret
        exact ⟨by rw [HT.out]; rfl, Hp.out⟩
  · have hC2 : C = false := by rw [hC]; unfold tchk; rw [decide_eq_false h100]; rfl
    subst hC2
    have h100' : (l.length : Int) > 100 := by omega
    go_enter Tryz.func116, Tryz.ntmps116
    go_wp2
    go_ret
    exact ⟨rfl, Below.refl _ _⟩
end Go.Proofs.YtdlpnhfgjficgaaGreat
