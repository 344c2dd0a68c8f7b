/- ref05's Check. -/
import Derived.Test.YtdlpnhfgjficgaaGreatEC
import Derived.Test.YtdlpnhfgjficgaaGreatMRy
namespace Go.Proofs.YtdlpnhfgjficgaaGreat
open Go.RowKit Go.Maps Go.Shelf Go.Sort

set_option maxRecDepth 8000 in
set_option maxHeartbeats 8000000 in
theorem rbchk_any (v0 v1 v2 : Value) (g : Bag) (w : World) (hr : BR3 v0 v1 v2 g w) (hl0 : g.1.length ≤ 100000) (hl1 : g.2.1.length ≤ 100000) (hl2 : g.2.2.length ≤ 100000) :
    Calls Tryz.prog 114 #[.agg #[v0, v1, v2]] w fun e w' => e = .returned (.int .i64 (er1 (bchk g))) ∧ Pure w w' := by
  obtain ⟨a0, c0, rfl⟩ := hr.1.shape
  obtain ⟨a1, c1, rfl⟩ := hr.2.1.shape
  obtain ⟨a2, c2, rfl⟩ := hr.2.2.shape
  obtain ⟨V, hV⟩ : ∃ V, V = bchk g := ⟨_, rfl⟩
  rw [← hV]
  have hVe := hid (show V = (cchk g.2.1 g.2.2 && allB g.1.length (bat g)) from hV)
  clear hV
  obtain ⟨wz, hwz⟩ : ∃ wz, wz = w.alloc (.cells #[.slice a0 g.1.length c0, .slice a1 g.2.1.length c1, .slice a2 g.2.2.length c2] 34) := ⟨_, rfl⟩
  have Hpz := hid (show Pure w wz from by rw [hwz]; exact (Below.refl _ _).alloc (Nat.le_refl _) _)
  have HX := hid (show BX w.heap.size (.slice a0 g.1.length c0) (.slice a1 g.2.1.length c1) (.slice a2 g.2.2.length c2) g wz from by rw [hwz]; exact BX.made hr)
  have HC := hid (fun W (hW : Pure wz W) => (HX.out.pure hW).cells)
  have HR := hid (fun W (hW : Pure wz W) => (HX.out.pure hW).r)
  have hck := hid (fun W (hW : Pure wz W) => rcchk_any _ _ g.2.1 g.2.2 W (HR.out W hW).2.1 (HR.out W hW).2.2 hl1 hl2)
  have hmay := hid (fun m W => rmay_any m W)
  have hhas := hid (fun d W (hW : Pure wz W) => rchas_any _ _ g.2.1 g.2.2 d W (HR.out W hW).2.1 (HR.out W hW).2.2)
  have hles := hid (fun d e W => rless_any d e W)
  unfold dv at hhas hles
  unfold mv at hmay
  have k1 := (HC.out wz (Below.refl _ _)).2.1
  have k2 := (HC.out wz (Below.refl _ _)).2.2
  rw [hwz] at k1 k2
  unfold er1 at hck
  generalize cchk g.2.1 g.2.2 = V1 at *
  clear hr hl1 hl2
  go_enter Tryz.func114, Tryz.ntmps114
  go_wp2_with fail
  rw [← hwz]
  clear hwz k1 k2
  refine (hck.out _ (Below.refl _ _)).mono ?_
  rintro e w1 ⟨rfl, hp1⟩
  have Hp1 := hid hp1
  clear hp1
  cases V1 with
  | false =>
    have HF := hid (show V = false from hVe.out)
    go_wp2
    go_ret
    exact ⟨by rw [HF.out]; rfl, Hpz.out.then_ Hp1.out⟩
  | true =>
    have HF0 := hid (fun k (hk : k < g.1.length) (h : bat g k = false) => (show V = false from by rw [hVe.out, allB_false hk h]; rfl))
    have HT := hid (fun (h1 : allB g.1.length (bat g) = true) => (show V = true from by rw [hVe.out, h1]; rfl))
    clear hVe
    go_wp2
    go_loopw [3] (fun i wr => ∃ k : Nat, k ≤ g.1.length ∧ i = .int .i64 k ∧ allB k (bat g) = true ∧ Pure wz wr) (fun i _ => g.1.length - (RowKit.intOf i).toNat)
    case atStart => exact ⟨0, Nat.zero_le _, rfl, rfl, Hp1.out⟩
    case round =>
      obtain ⟨k, hk, rfl, hal, hp⟩ := hrel
      have Hal := hid hal
      have Hp := hid hp
      clear hal
      obtain ⟨k0, k1, k2⟩ := HC.out wr hp
      by_cases hlt : k < g.1.length
      · have hlt' : (k : Int) < (g.1.length : Int) := by omega
        obtain ⟨b, off, rfl, hb, x0, x1, x2, x3, x4⟩ := Msgs.get (HR.out wr hp).1 hlt
        have Hno := hid (HF0.out k hlt)
        have Hyes := hid (fun (e : bat g k = true) => allB_next Hal.out e)
        have Hbat := hid (show bat g k = (mmay (g.1.getD k m0) && chas g.2.1 g.2.2 (g.1.getD k m0).1 && (decide (k = 0) || dlt (g.1.getD (k - 1) m0).1 (g.1.getD k m0).1)) from rfl)
        have hprev := hid (fun W (hW : Pure wz W) (h0 : 0 < k) => (show W.cell? ⟨b, off + (k - 1) * 5, none⟩ = some (.int .i64 (g.1.getD (k - 1) m0).1.1) ∧ W.cell? ⟨b, off + (k - 1) * 5 + 1, none⟩ = some (.int .i64 (g.1.getD (k - 1) m0).1.2) from by
          obtain ⟨b', off', e', _, y0, y1, _⟩ := Msgs.get (HR.out W hW).1 (show k - 1 < g.1.length by omega)
          cases e'; exact ⟨y0, y1⟩))
        have hmay2 := hid (fun W => hmay.out (g.1.getD k m0) W)
        have hhas2 := hid (fun W (hW : Pure wz W) => hhas.out (g.1.getD k m0).1 W hW)
        have hless := hid (fun W => hles.out (g.1.getD (k - 1) m0).1 (g.1.getD k m0).1 W)
        generalize g.1.getD (k - 1) m0 = y at *
        generalize g.1.getD k m0 = z at *
        obtain ⟨⟨z1, z2⟩, zq, zb, zc⟩ := z
        obtain ⟨⟨y1, y2⟩, yq, yb, yc⟩ := y
        dsimp only at x0 x1 x2 x3 x4 Hbat hmay2 hhas2 hprev hless
        generalize mmay ((z1, z2), zq, zb, zc) = D1 at *
        generalize chas g.2.1 g.2.2 (z1, z2) = D2 at *
        generalize dlt (y1, y2) (z1, z2) = D3 at *
        obtain ⟨Wd, hWd⟩ : ∃ Wd, Wd = wr.alloc (.cells #[.int .i64 z1, .int .i64 z2, .string (bs zq), .string (bs zb), .int .i64 zc] 43) := ⟨_, rfl⟩
        have Hpd := hid (show Pure wr Wd from by rw [hWd]; exact (Below.refl _ _).alloc (Nat.le_refl _) _)
        have Hbd := hid (show MB wr.heap.size z1 z2 zq zb zc Wd from by rw [hWd]; exact block_alloc_new _ _)
        clear hp hb
        go_upto_region 7 with fail
        rw [← hWd]
        clear hWd x0 x1 x2 x3 x4 k0 k1 k2
        generalize wr.heap.size = m at *
        have Hpw := hid (Hp.out.then_ Hpd.out)
        obtain ⟨g0, g1, g2, g3, g4, -⟩ := Hbd.out.cells
        go_wp2_with fail
        refine (hmay2.out _).mono ?_
        rintro e w4 ⟨rfl, hp4⟩
        have Hp4 := hid (Hpw.out.then_ hp4)
        have Hb4 := hid (show MB m z1 z2 zq zb zc w4 from (hp4.block _ (lt_of_block Hbd.out)).trans Hbd.out)
        clear hp4 g0 g1 g2 g3 g4
        obtain ⟨g0, g1, g2, g3, g4, -⟩ := Hb4.out.cells
        obtain ⟨k0, k1, k2⟩ := HC.out w4 Hp4.out
        go_wp2_with fail
        refine (hhas2.out _ Hp4.out).mono ?_
        rintro e w5 ⟨rfl, hp5⟩
        have Hp5 := hid (Hp4.out.then_ hp5)
        have Hb5 := hid (show MB m z1 z2 zq zb zc w5 from (hp5.block _ (lt_of_block Hb4.out)).trans Hb4.out)
        clear hp5 g0 g1 g2 g3 g4 k0 k1 k2
        cases D1 with
        | false =>
          have HF := hid (Hno.out (by rw [Hbat.out]; rfl))
          clear Hyes Hno Hbat hprev
          go_wp2
          go_ret
          exact ⟨by rw [HF.out]; rfl, Hpz.out.then_ Hp5.out⟩
        | true =>
          cases D2 with
          | false =>
            have HF := hid (Hno.out (by rw [Hbat.out]; rfl))
            clear Hyes Hno Hbat hprev
            go_wp2
            go_ret
            exact ⟨by rw [HF.out]; rfl, Hpz.out.then_ Hp5.out⟩
          | true =>
            by_cases h0 : k = 0
            · subst h0
              have HT' := hid (Hyes.out (by rw [Hbat.out]; rfl))
              have hd : decide ((0 : Int) < ((0 : Nat) : Int)) = false := by decide
              have hd2 : decide (((0 : Nat) : Int) > 0) = false := by decide
              clear Hyes Hno Hbat hprev
              go_wp2_with fail
              go_quiet (fail)
              go_wp2
              go_roundw
              case rel => exact ⟨0 + 1, by omega, by go_num, HT'.out, Hp5.out.then_ (pure_drewN _ _)⟩
              case measure => simp [RowKit.intOf]; omega
            · have hd : decide ((0 : Int) < (k : Int)) = true := by simp; omega
              have hd2 : decide ((k : Int) > 0) = true := by simp; omega
              have hd3 : decide (0 < k) = true := decide_eq_true (by omega)
              have hsub : IntKind.i64.wrap ((k : Int) - 1) = ((k - 1 : Nat) : Int) := by rw [IntWalk.i64_in _ (by omega)]; omega
              have hsub2 : (k : Int) - 1 = ((k - 1 : Nat) : Int) := by omega
              have hlt2 : ((k - 1 : Nat) : Int) < (g.1.length : Int) := by omega
              have hn : (0 : Int) ≤ ((k - 1 : Nat) : Int) := by omega
              have HT' := hid (fun (e : D3 = true) => Hyes.out (by rw [Hbat.out, e, Bool.or_true]; rfl))
              have HF' := hid (fun (e : D3 = false) => Hno.out (by rw [Hbat.out, e, decide_eq_false h0]; rfl))
              have hS : Hid (∀ W, Pure w5 W → (W.cell? ⟨w.heap.size, 0, none⟩ = some (.slice (some ⟨b, off, none⟩) g.1.length c0) ∧ W.cell? ⟨b, off + (k - 1) * 5, none⟩ = some (.int .i64 y1) ∧ W.cell? ⟨b, off + (k - 1) * 5 + 1, none⟩ = some (.int .i64 y2) ∧ W.cell? ⟨m, 0, none⟩ = some (.int .i64 z1) ∧ W.cell? ⟨m, 1, none⟩ = some (.int .i64 z2) ∧ Pure w5 W)) := fun W hW => by
                obtain ⟨j0, -, -⟩ := HC.out W (Hp5.out.then_ hW)
                obtain ⟨y0, y1⟩ := hprev.out W (Hp5.out.then_ hW) (by omega)
                have e := (hW.block _ (lt_of_block Hb5.out)).trans Hb5.out
                exact ⟨j0, y0, y1, cell_of_block e 0, cell_of_block e 1, hW⟩
              have hst := hid (hS.out w5.drew (Below.refl _ _).drew)
              have hS2 : Hid (∀ W : World, (W.cell? ⟨w.heap.size, 0, none⟩ = some (.slice (some ⟨b, off, none⟩) g.1.length c0) ∧ W.cell? ⟨b, off + (k - 1) * 5, none⟩ = some (.int .i64 y1) ∧ W.cell? ⟨b, off + (k - 1) * 5 + 1, none⟩ = some (.int .i64 y2) ∧ W.cell? ⟨m, 0, none⟩ = some (.int .i64 z1) ∧ W.cell? ⟨m, 1, none⟩ = some (.int .i64 z2) ∧ Pure w5 W) → Pure w5 W) := fun W h => h.2.2.2.2.2
              clear Hyes Hno Hbat hprev
              generalize hj : k - 1 = j at *
              have hwm : IntKind.i64.wrap (j : Int) = (j : Int) := IntWalk.i64_in _ (by omega)
              cases D3
              case' false => have HQ := hid (HF'.out rfl)
              case' true => have HQ := hid (HT'.out rfl)
              all_goals
                clear HT' HF'
                go_wp2_with fail
                refine wp_region_held_drew (S := (fun W => W.cell? ⟨w.heap.size, 0, none⟩ = some (.slice (some ⟨b, off, none⟩) g.1.length c0) ∧ W.cell? ⟨b, off + j * 5, none⟩ = some (.int .i64 y1) ∧ W.cell? ⟨b, off + j * 5 + 1, none⟩ = some (.int .i64 y2) ∧ W.cell? ⟨m, 0, none⟩ = some (.int .i64 z1) ∧ W.cell? ⟨m, 1, none⟩ = some (.int .i64 z2) ∧ Pure w5 W)) (by kernel_rfl) ?_ (fun hHeld => ?_)
                · first | assumption | with_reducible exact hst.out | with_reducible exact hS.out _ (Pure.then_ (hS2.out _ (by assumption)) hp7)
                refine tkA 0 ?_
                refine tkA 1 ?_
                refine tkA 2 ?_
                refine tkA 3 ?_
                refine tkA 4 ?_
                refine tkA 5 ?_
                refine tkA 6 ?_
                refine tkA 7 ?_
                refine tkA 8 ?_
                refine tkA 9 ?_
                refine tkA 10 ?_
                refine tkA 11 ?_
                refine wpAnyH_ready (rs := [12]) (by kernel_rfl) (by simp) ?_
                refine AllReadyH.cons rfl (fun K hK => ?_) AllReadyH.nil
                (try simp only [List.getElem_toArray, List.getElem_cons_succ, List.getElem_cons_zero])
                go_simp
                go_at_call 163; (with_reducible refine (hless.out _).mono ?_); rintro e w7 ⟨rfl, hp7⟩
                refine hK.out _ _ ?_ (fun hHeld => ?_)
                · first | assumption | with_reducible exact hst.out | with_reducible exact hS.out _ (Pure.then_ (hS2.out _ (by assumption)) hp7)
                clear hK K
                try simp only [Act.put, List.setIfInBounds_toArray, List.set_cons_zero, List.set_cons_succ, List.getElem_toArray, List.getElem_cons_succ, List.getElem_cons_zero]
                refine tkA 13 ?_
                refine tkA 14 ?_
                refine wpAnyH_done (by kernel_rfl) ?_ _
                have hx := hid (hS2.out _ (by assumption))
              · go_wp2
                go_roundw
                case rel => exact ⟨k + 1, by omega, by go_num, HQ.out, Hp5.out.then_ hx.out⟩
                case measure => simp [RowKit.intOf]; omega
              · go_wp2
                go_ret
                exact ⟨by rw [HQ.out]; rfl, Hpz.out.then_ (Hp5.out.then_ hx.out)⟩
      · have hlt' : ¬ (k : Int) < (g.1.length : Int) := by omega
        obtain rfl : k = g.1.length := by omega
        have HT' := hid (HT.out Hal.out)
        clear hp
        go_wp2
        go_ret
        exact ⟨by rw [HT'.out]; rfl, Hpz.out.then_ Hp.out⟩
end Go.Proofs.YtdlpnhfgjficgaaGreat
