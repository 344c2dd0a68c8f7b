/- law10: WatchRounds, the walk. -/
import Derived.Test.YtlamhobkmknnpaaRounds
namespace Go.Proofs.Ytlamhobkmknnpaa
open Go.RowKit Go.Maps Go.MapKept

theorem peer_own (w : World) (p : Pr) : (w.alloc (.cells #[.int .i64 p.id, .int .i64 p.inc, .int .i64 p.st] 28)).ownsRow w.heap.size 28 3 (.slice (some ⟨w.heap.size, 0, none⟩) 1 1) 1 (pvs [p]) :=
  ⟨rfl, .inr ⟨w.heap.size, 1, _, rfl, Nat.le_refl _, block_alloc_new _ _, Nat.le_refl _, by unfold maxLen; omega, rfl, rfl⟩⟩
set_option maxRecDepth 100000 in
set_option maxHeartbeats 8000000 in
theorem rounds_walk (n : Int) (vd : Value) (D : List Int) (w : World) (hd : Ints w vd D) : Calls Try.prog 5 #[.int .i64 n, vd] w fun e w' => e = .returned (.bool true) ∧ Pure w w' := by
  obtain ⟨i0, hi, hz0, hz1, hz2⟩ := info_parts infoPeer
  obtain ⟨ad, cd, rfl⟩ := hd.shape
  have hDl : D.length ≤ maxLen := Row.len_le hd
  unfold maxLen at hDl
  have Hd := hid hd
  clear hd
  go_enter Try.func5, Try.ntmps5
  go_upto_region 2 with (go_at_call 8; (with_reducible refine (awake_any w).mono ?_); rintro e w1 ⟨rfl, hp1⟩; have Hp1 := hid hp1; clear hp1)
  go_cut [6] from 18 to 24 (fun kk wx => (∃ K : Nat, 1 ≤ K ∧ K ≤ 8 ∧ kk = .int .i64 (K : Int)) ∧ wx = w1)
  case first =>
    have h3 : -8 < n.tmod 8 ∧ n.tmod 8 < 8 := ⟨by have := Int.lt_tmod_of_pos n (show (0 : Int) < 8 by decide); omega, Int.tmod_lt_of_pos n (by decide)⟩
    go_wp2
    go_meet
    case rel => exact ⟨⟨(1 + n.tmod 8 % 8).toNat, by omega, by omega, by rw [Int.toNat_of_nonneg (by omega)]⟩, rfl⟩
  case rest =>
    obtain ⟨⟨K, hK1, hK8, rfl⟩, rfl⟩ := hcut
    obtain ⟨w1, rfl⟩ : ∃ w1 : World, w1 = wc := ⟨_, rfl⟩
    go_wp2
    go_loopw [7, 8] (fun o i wr => ∃ j : Nat, j ≤ K ∧ i = .int .i64 j ∧ wr.ownsRow w1.heap.size 28 3 o (rL j).length (pvs (rL j)) ∧ Pure w1 wr) (fun _ i _ => K - (RowKit.intOf i).toNat)
    case atStart => exact ⟨0, Nat.zero_le _, rfl, peer_own w1 ⟨1, 0, 0⟩, (Below.refl _ _).alloc (Nat.le_refl _) _⟩
    case round =>
      obtain ⟨j, hj, rfl, hown, hp⟩ := hrel
      obtain ⟨a2, c2, rfl⟩ := own_shape_p hown
      have Hown := hid hown
      have Hp := hid hp
      clear hown hp
      have hll : (rL j).length ≤ 9 := by rw [rL_len]; omega
      by_cases hlt : j < K
      · have hlt' : (j : Int) < (K : Int) := by omega
        have HY := hid (rL_snoc j)
        generalize rL j = Y at *
        go_wp2_with (at_builtin; refine wpList_append_rows rfl _ _ 22 rfl w1.heap.size 28 i0 (.agg #[.int .i64 0, .int .i64 0, .int .i64 0]) 3 24 Try.underlying22 hi hz0 hz1 hz2 rfl (by decide) (by decide) _ Y.length (pvs Y) rfl (Hown.out.alloc _) _ 1 (pcells ⟨2 + (j : Int), 0, 0⟩) rfl (peer_row wr ⟨2 + (j : Int), 0, 0⟩) (pcells_one _) (by simp; omega) (by have := Hp.out.size; simp; omega) ?_)
        intro v3 w3 hown3 hg3
        have Hp3 := hid ((Hp.out.alloc Hp.out.size _).grown hg3 (by have := Hp.out.size; simp; omega) (fun k hk => (Hown.out.lt k hk).1))
        have Hown3 := hid hown3
        clear hown3 hg3
        go_wp2
        go_roundw
        case rel => exact ⟨j + 1, by omega, by go_num, by rw [HY.out, pvs_snoc, List.length_append]; exact Hown3.out, Hp3.out⟩
        case measure => simp [RowKit.intOf]; omega
      · have hlt' : ¬ (j : Int) < (K : Int) := by omega
        obtain rfl : j = K := by omega
        obtain ⟨w2, rfl⟩ : ∃ w2 : World, w2 = wr := ⟨_, rfl⟩
        have hnew := hid (wnew_ok 1 1 5 w2 (by omega) (by omega) (by omega) (by omega))
        obtain ⟨b, hb⟩ : ∃ b, b = w2.heap.size + 1 := ⟨_, rfl⟩
        obtain ⟨mb, hmb⟩ : ∃ mb, mb = w2.heap.size := ⟨_, rfl⟩
        rw [← hb, ← hmb] at hnew
        have hbw : w.heap.size ≤ b ∧ w.heap.size ≤ mb := by have := Hp1.out.size; have := Hp.out.size; omega
        have Hoff := hid (show Off b mb (.slice a2 (rL j).length c2) from fun k hk => by have := (Hown.out.lt k (rb_own hk)).2; omega)
        clear hb hmb
        go_wp2_with fail
        refine hnew.out.mono ?_
        rintro e w3 ⟨rfl, hW, hp3⟩
        have HW := hid hW
        have hb3 : b < w3.heap.size := lt_of_block hW.blk
        have hm3 : mb < w3.heap.size := hW.map.lt
        have Hp3 := hid (Hp1.out.then_ (Hp.out.then_ hp3))
        have HP3 := hid (show Peers w3 (.slice a2 (rL j).length c2) (rL j) from Row.of_own (own_pure Hown.out hp3))
        clear hW hp3 hnew
        go_wp2
        obtain ⟨X, hX⟩ : ∃ X, X = w3.heap.size := ⟨_, rfl⟩
        obtain ⟨w4, hw4⟩ : ∃ w4, w4 = w3.alloc (.cells #[.int .i64 0, .int .i64 0, .int .i64 0, .int .i64 0, .int .i64 0, .int .i64 0, .int .i64 0, .int .i64 0, .int .i64 0, .int .i64 0, .int .i64 0, .int .i64 0] 38) := ⟨_, rfl⟩
        have Hp34 := hid (show Pure w3 w4 from by rw [hw4]; exact (Below.refl _ _).alloc (Nat.le_refl _) _)
        have HX4 := hid (show w4.heap[X]? = some (.cells (cntA (fun _ => 0)) 38 (0, 0)) from by rw [hw4, hX]; exact block_alloc_new _ _)
        have hXb : X ≠ b ∧ X ≠ mb := by omega
        rw [← hX, ← hw4]
        have hXs := hid (show w3.heap.size ≤ X from by omega)
        have HPk := hid (fun W (hW : Kept (W2 b mb) w3 W) => (show Peers W (.slice a2 (rL j).length c2) (rL j) from Row.kept HP3.out hW (fun k hk e => by
          have := Hoff.out k hk
          rcases e with e | e
          · exact this.1 e
          · exact this.2 e)))
        have HDk := hid (fun W (hW : Kept (W2 b mb) w3 W) => (show Ints W (.slice ad D.length cd) D from Row.kept (Row.pure Hd.out Hp3.out) hW (fun k hk e => by
          have := Row.lt Hd.out k hk
          have := hbw
          rcases e with e | e <;> omega)))
        clear hw4 hX
        go_loopw [11, 12, 13, 14, 15, 16] (fun i _ _ _ _ _ wr => ∃ (i' : Nat) (A R : List Int) (cnt : Int → Int) (vr : Value) (cb : Int), i' ≤ D.length ∧ i' ≤ 20 ∧ i = .int .i64 i' ∧ RI j i' A R cnt ∧ WAt wr b mb vr (rS cb i' [] R) ∧ 0 ≤ cb ∧ cb ≤ i' ∧ wr.heap[X]? = some (.cells (cntA cnt) 38 (0, 0)) ∧ vr.rb ≠ some X ∧ Kept (W2 b mb) w3 wr) (fun i _ _ _ _ _ _ => D.length - (RowKit.intOf i).toNat)
        case atStart => exact ⟨0, [], [], fun _ => 0, _, 0, Nat.zero_le _, by omega, rfl, RI.start j, HW.out.pure Hp34.out, by omega, by omega, HX4.out, by simp [Value.rb], Hp34.out.kept⟩
        case round =>
          obtain ⟨i, A, R, cnt, vr, cb, hi1, hi20, rfl, hRI, hW, hcb0, hcb, hXb4, hvr, hK⟩ := hrel
          have HRI := hid hRI
          have HWr := hid hW
          have HXr := hid hXb4
          have Hvr := hid hvr
          have HK := hid hK
          clear hRI hW hXb4 hvr hK
          obtain ⟨wo, rfl⟩ : ∃ wo : World, wo = wr := ⟨_, rfl⟩
          by_cases hlt : i < D.length ∧ i < 20
          · obtain ⟨l1, l2⟩ := hlt
            have l1' : (i : Int) < (D.length : Int) := by omega
            have l2' : (i : Int) < 20 := by omega
            have hi0 : (0 : Int) ≤ (i : Int) := by omega
            obtain ⟨_, _, _, hc⟩ := (HDk.out wo HK.out).cell
            obtain ⟨bd, od, rfl, hbd, hdc⟩ : ∃ bd od, ad = some ⟨bd, od, none⟩ ∧ bd < wo.heap.size ∧ wo.cell? ⟨bd, od + i, none⟩ = some (.int .i64 (D.getD i 0)) := by
              rcases hc with ⟨h0, _⟩ | ⟨bd, od, e, hb, hcc⟩
              · rw [h0] at l1; exact absurd l1 (Nat.not_lt_zero _)
              · exact ⟨bd, od, e, hb, hcc i l1⟩
            clear hc
            generalize D.getD i 0 = draw at *
            obtain ⟨ask, rest, hu, hpm, hal⟩ := HRI.out.use (k := j) hK1 draw
            have hask := (rO_mem j ask).1 (hpm.mem_iff.1 (by simp))
            have htick := tick_any b mb vr _ (rS cb i [] R) (rL j) 10 i draw wo HWr.out (rS_ok j i cb HRI.out hK8 (by omega)) (by omega) (HPk.out wo HK.out) Hoff.out (by rw [rL_len]; omega) (rL_ok j hK8) (by omega)
            rw [rTick j cb i draw R hcb HRI.out.sub hK1 hu] at htick
            have Htick := hid htick
            obtain ⟨A', hRI'⟩ := HRI.out.next hK1 hpm hal
            have hbd := HRI.out.cnt_bd hi20 hask.1 hask.2
            obtain ⟨x, rfl⟩ : ∃ x : Nat, ask = (x : Int) := ⟨ask.toNat, by omega⟩
            have HRI2 := hid hRI'.1
            have Hall := hid hRI'.2
            clear htick hRI' hpm hal hu
            go_wp2_with fail
            refine Htick.out.mono ?_
            rintro e w5 ⟨v5, vr5, rfl, hPe, hOf, hW5, hK5, hF5⟩
            have hsm := hid (samep_eq _ _ (rL j) w5 hPe (HPk.out w5 (HK.out.trans hK5)))
            have HW5 := hid hW5
            have HK5 := hid (HK.out.trans hK5)
            have HX5 := hid ((hK5.block X (lt_of_block HXr.out) (fun e => by rcases e with e | e; exact hXb.1 e; exact hXb.2 e)).trans HXr.out)
            have Hvr5 := hid (show vr5.rb ≠ some X from fun e => by
              rcases hF5 X e with h | h
              · exact Hvr.out h
              · have := lt_of_block HXr.out; omega)
            obtain ⟨a5, c5, rfl⟩ := hPe.shape
            clear hPe hOf hW5 hK5 hF5 hdc
            go_wp2_with fail
            refine hsm.out.mono ?_
            rintro e w6 ⟨rfl, hp6⟩
            have hhe := wheard_any b mb vr5 _ (x : Int) w6 (HW5.out.pure hp6) (wf_i64 _ (by omega))
            have hh2 := rHeard i ((i : Int) + 1) (x : Int) rest
            rw [show (i : Int) + 1 - 1 = (i : Int) from by omega] at hh2
            rw [hh2.1, hh2.2] at hhe
            have Hhe := hid hhe
            have HK6 := hid (HK5.out.trans hp6.kept)
            have HX6 := hid ((hp6.block X (lt_of_block HX5.out)).trans HX5.out)
            clear hhe hh2 hp6 hsm
            have g1 : ¬ (x : Int) < 2 := by omega
            have g2 : ¬ (x : Int) ≥ 2 + (j : Int) := by omega
            go_wp2_with fail
            refine Hhe.out.mono ?_
            rintro e w7 ⟨rfl, hW7, hK7⟩
            have HW7 := hid hW7
            have HK7 := hid (HK6.out.trans hK7)
            have HX7 := hid ((hK7.block X (lt_of_block HX6.out) (fun e => by rcases e with e | e; exact hXb.1 e; exact hXb.2 e)).trans HX6.out)
            clear hW7 hK7
            have x0 : (0 : Int) ≤ (x : Int) := by omega
            have x12 : (x : Int) < 12 := by omega
            have hx12 : x < 12 := by omega
            have y0 : w7.cell? ⟨X, x, none⟩ = some (.int .i64 (cnt (x : Int))) := (cell_of_block HX7.out x).trans (cntA_get cnt x hx12)
            have z0 : w7.frozen? ⟨X, x, none⟩ = false := free_of_block HX7.out x
            generalize hcv : cnt (x : Int) = cv at *
            obtain ⟨w8, hw8⟩ : ∃ w8, w8 = w7.setCell ⟨X, x, none⟩ (.int .i64 (cv + 1)) := ⟨_, rfl⟩
            have hset := cntA_set cnt x hx12
            rw [hcv] at hset
            have HX8 := hid (show w8.heap[X]? = some (.cells (cntA (fun j => if j = (x : Int) then cnt j + 1 else cnt j)) 38 (0, 0)) from by rw [hw8, ← hset]; exact block_setCell HX7.out x _)
            have hKx := hid (show Kept (fun k => k = X) w7 w8 from by rw [hw8]; exact (Kept.refl _ _).setCell (S := fun k => k = X) (p := ⟨X, x, none⟩) (fun _ => rfl) _)
            have HK8 := hid (show Kept (W2 b mb) w3 w8 from by rw [hw8]; exact HK7.out.setCell (p := ⟨X, x, none⟩) (fun h => absurd h (by show ¬ X < w3.heap.size; have := hXs.out; omega)) _)
            have HW8 := hid (show WAt w8 b mb vr5 (rS i ((i : Int) + 1) [] rest) from ⟨(hKx.out.block b (lt_of_block HW7.out.blk) (fun e => hXb.1 e.symm)).trans HW7.out.blk, HW7.out.map.kept hKx.out (fun e => hXb.2 e.symm), Row.kept HW7.out.rnd hKx.out (fun k hk e => Hvr5.out (by rw [hk, e])), HW7.out.ne, HW7.out.sep, HW7.out.sepm⟩)
            have Hw8 := hid hw8
            have Hcv := hid hcv
            clear hw8 hset hcv
            have hmodN := hid (show (((i : Int) + 1) % (j : Int)) = (((i + 1) % j : Nat) : Int) from by rw [Int.natCast_emod]; rfl)
            have hdivN := hid (show (((i : Int) + 1) / (j : Int)) = (((i + 1) / j : Nat) : Int) from by rw [Int.natCast_ediv]; rfl)
            have Hall' := hid (fun (t : Nat) (h1 : 2 ≤ t) (h2 : t < 2 + j) (hz : (i + 1) % j = 0) => Hall.out hz t (by omega) (by omega))
            generalize hmz : (i + 1) % j = mz at *
            generalize hdz : (i + 1) / j = dz at *
            have Hmz := hid hmz
            have Hdz := hid hdz
            clear hmz hdz
            have hm1 := hmodN.out
            have hd1 := hdivN.out
            have hm2 : ((i : Int) + 1).tmod (j : Int) = (mz : Int) := by rw [Int.tmod_eq_emod_of_nonneg (by omega)]; exact hm1
            have hd2 : ((i : Int) + 1).tdiv (j : Int) = (dz : Int) := by rw [Int.tdiv_eq_ediv_of_nonneg (by omega)]; exact hd1
            go_upto_if 95 with fail
            rw [← Hw8.out]
            clear y0 z0
            have HW9 := hid (show WAt w8 b mb vr5 (rS (i : Int) ((i + 1 : Nat) : Int) [] rest) from by rw [show ((i + 1 : Nat) : Int) = (i : Int) + 1 from by omega]; exact HW8.out)
            have hXlt := hid (lt_of_block HX8.out)
            have Hfin := hid (fun (q : Nat) => (show ∃ (i' : Nat) (A R : List Int) (cnt : Int → Int) (vr : Value) (cb : Int), i' ≤ D.length ∧ i' ≤ 20 ∧ Value.int .i64 ((i : Int) + 1) = .int .i64 i' ∧ RI j i' A R cnt ∧ WAt (w8.drewN q) b mb vr (rS cb i' [] R) ∧ 0 ≤ cb ∧ cb ≤ i' ∧ (w8.drewN q).heap[X]? = some (.cells (cntA cnt) 38 (0, 0)) ∧ vr.rb ≠ some X ∧ Kept (W2 b mb) w3 (w8.drewN q) from
              ⟨i + 1, A', rest, _, vr5, i, by omega, by omega, by go_num, HRI2.out, HW9.out.pure (pure_drewN _ _), by omega, by omega, HX8.out, Hvr5.out, HK8.out.trans (pure_drewN _ _).kept⟩))
            by_cases hz : mz = 0
            · have hz' : ((mz : Int) == 0) = true := by simp [hz]
              have Hz := hid hz
              clear hz
              go_wp2
              go_loopw [16] (fun t wr => ∃ t' m : Nat, 2 ≤ t' ∧ t' ≤ 2 + j ∧ t = .int .i64 t' ∧ wr = w8.drewN m) (fun t _ => 2 + j - (RowKit.intOf t).toNat)
              case atStart => exact ⟨2, 0, by omega, by omega, rfl, rfl⟩
              case round =>
                obtain ⟨t, m, ht2, htj, rfl, rfl⟩ := hrel
                by_cases hlt : t < 2 + j
                · have t1 : (t : Int) < 2 + (j : Int) := by omega
                  have t0 : (0 : Int) ≤ (t : Int) := by omega
                  have t12 : (t : Int) < 12 := by omega
                  have y1 : w8.cell? ⟨X, t, none⟩ = some (.int .i64 (dz : Int)) := by
                    have h1 : w8.cell? ⟨X, t, none⟩ = some (.int .i64 (if (t : Int) = (x : Int) then cnt (t : Int) + 1 else cnt (t : Int))) := (cell_of_block HX8.out t).trans (cntA_get (fun j => if j = (x : Int) then cnt j + 1 else cnt j) t (by omega))
                    rw [h1, Hall'.out t ht2 hlt Hz.out]
                  have hq1 : IntKind.i64.wrap ((i : Int) + 1) = (i : Int) + 1 := IntWalk.i64_in _ (by omega)
                  have hq2 : IntKind.i64.wrap (dz : Int) = (dz : Int) := IntWalk.i64_in _ (by have := Hdz.out; have := Nat.div_le_self (i + 1) j; omega)
                  have hq3 : ((dz : Int) != (dz : Int)) = false := by simp
                  have hj0 : ((j : Int) == 0) = false := by simp; omega
                  go_wp2_with fail
                  go_quiet (fail)
                  clear hq1 hq2
                  go_wp2
                  go_roundw
                  case rel => exact ⟨t + 1, _, by omega, by omega, by go_num, rfl⟩
                  case measure => simp [RowKit.intOf]; omega
                · have t1 : ¬ (t : Int) < 2 + (j : Int) := by omega
                  go_wp2
                  go_roundw
                  case rel => exact Hfin.out m
                  case measure => simp [RowKit.intOf]; omega
            · have hz' : ((mz : Int) == 0) = false := by simpa using hz
              clear hz
              go_wp2
              go_roundw
              case rel => exact Hfin.out 0
              case measure => simp [RowKit.intOf]; omega
          · have hwt := hid (wwaiting_any b mb vr _ wo HWr.out (by simp [rS]))
            rw [show srt ((rS cb i [] R).waits.map (·.1)) = [] from srt_nil] at hwt
            have hwt := hid (show Calls Try.prog 17 #[.pointer (some ⟨b, 0, none⟩)] wo fun e w' => ∃ v', e = .returned v' ∧ w'.ownsRow wo.heap.size 3 1 v' 0 [] ∧ Pure wo w' from hwt.out)
            by_cases l1 : i < D.length
            · have l1' : (i : Int) < (D.length : Int) := by omega
              have l2' : ¬ (i : Int) < 20 := by omega
              go_wp2_with fail
              refine hwt.out.mono ?_
              rintro e w8 ⟨v8, rfl, hown8, hp8⟩
              obtain ⟨a8, c8, rfl⟩ := own_shape_p hown8
              have Hend := hid (Hp3.out.w2 (HK.out.trans hp8.kept) hbw.1 hbw.2)
              clear hown8 hp8
              go_wp2
              go_ret
              exact ⟨rfl, Hend.out⟩
            · have l1' : ¬ (i : Int) < (D.length : Int) := by omega
              go_wp2_with fail
              refine hwt.out.mono ?_
              rintro e w8 ⟨v8, rfl, hown8, hp8⟩
              obtain ⟨a8, c8, rfl⟩ := own_shape_p hown8
              have Hend := hid (Hp3.out.w2 (HK.out.trans hp8.kept) hbw.1 hbw.2)
              clear hown8 hp8
              go_wp2
              go_ret
              exact ⟨rfl, Hend.out⟩
end Go.Proofs.Ytlamhobkmknnpaa
