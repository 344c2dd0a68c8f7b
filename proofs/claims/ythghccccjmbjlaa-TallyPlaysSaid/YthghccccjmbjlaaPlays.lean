import Derived.Test.YthghccccjmbjlaaRefE
namespace Go.Proofs.Ythghccccjmbjlaa
open Go.RowKit Go.Maps
/-! TallyPlays. -/
theorem at_over {o l : List Int} {m : Int} {k : Nat} (h : l.length ≤ k) : TM.at_ o l m (k + 1) = TM.at_ o l m k := by
  unfold TM.at_; rw [List.take_of_length_le (by omega), List.take_of_length_le h]
theorem Duo.cell {b bm : Nat} {vo : Value} {d : Nat} {uo uy : Value} {w0 w : World} {c : TM} (h : Duo b bm vo d uo uy w0 c w) : w.cell? ⟨d, 2, none⟩ = some uy ∧ Duo b bm vo d uo uy w0 c w := ⟨cell_of_block h.r.blk 2, h⟩

set_option maxRecDepth 8000 in
set_option maxHeartbeats 2000000 in
theorem plays_walk (v1 v2 : Value) (o l : List Int) (need : Int) (w : World) (h1 : Ints w v1 o) (h2 : Ints w v2 l) (w1 : AllWf o) (w2 : AllWf l) :
    Calls Try.prog 3 #[v1, .int .i64 need, v2] w fun e w' => e = .returned (.bool true) ∧ Pure w w' := by
  have Hw := hid (awake_any w)
  obtain ⟨a1, c1, rfl⟩ := h1.shape
  obtain ⟨a2, c2, rfl⟩ := h2.shape
  have H1 := hid h1
  have H2 := hid h2
  clear h1 h2
  go_enter Try.func3, Try.ntmps3
  go_wp2_with fail
  refine Hw.out.mono ?_
  rintro e w3 ⟨rfl, hp3⟩
  go_wp2_with fail
  refine (few_any _ o w3 (H1.out.pure hp3)).mono ?_
  rintro e w' ⟨v1, rfl, hi1, hb1, rfl⟩
  obtain ⟨a1', c1', rfl⟩ := hi1.shape
  go_wp2_with fail
  refine (few_any _ l w3 (H2.out.pure hp3)).mono ?_
  rintro e w' ⟨v2, rfl, hi2, hb2, rfl⟩
  obtain ⟨a2', c2', rfl⟩ := hi2.shape
  have hwl := few_wf w2
  have hwo := few_wf w1
  have hlen := few_le l
  have hleno := few_le o
  have HP3 := hid hp3
  have HI1 := hid hi1
  have HI2 := hid hi2
  clear hb1 hb2 hp3 hi1 hi2
  generalize few l = L at *
  generalize few o = O at *
  by_cases hneed : need < 0
  · go_wp2_with fail
    refine (new_no _ need w3 hneed).mono ?_
    rintro e w' ⟨rfl, rfl⟩
    go_wp2_with fail
    refine (rnew_no _ need w3 hneed).mono ?_
    rintro e w' ⟨rfl, rfl⟩
    go_wp2
    go_ret
    exact ⟨rfl, HP3.out⟩
  · go_wp2_with fail
    refine (new_ok _ O need w3 HI1.out (by omega) hwo (by omega)).mono ?_
    rintro e w4 ⟨b, bm, vo, rfl, hA, hb, hbm, hvo, hp4⟩
    go_wp2_with fail
    refine (rnew_ok _ O need w4 (HI1.out.pure hp4) (by omega) (by omega)).mono ?_
    rintro e w5 ⟨d, uo, rfl, hR, hd, huo, hp5⟩
    have hbw := lt_of_block hA.blk
    have hbmw := hA.map.lt
    have hvow : ∀ k, vo.rb = some k → k < w4.heap.size := Row.lt hA.own
    have HD := hid (show Duo b bm vo d uo (.slice none 0 0) w5 (TM.at_ O L need 0) w5 from ⟨hA.pure hp5, by show RefAt w5 d uo _ ⟨dd O, need, srt []⟩; rw [srt_of List.Pairwise.nil]; exact hR, Kept.refl _ _, by omega, by omega, fun k hk => by have := hvow k hk; omega, fun k hk => by have := huo k hk; omega, fun k hk => by simp [Value.rb] at hk⟩)
    have hsz5 := hp5.size
    have hsz := hid (fun k (h : k = b ∨ k = bm) => (show k < w5.heap.size by rcases h with rfl | rfl <;> omega))
    have HL := hid (show Ints w5 (.slice a2' L.length c2') L from (HI2.out.pure hp4).pure hp5)
    have hltL := hid (fun k hk => Nat.lt_of_lt_of_le (Row.lt HI2.out k hk) (show w3.heap.size ≤ w4.heap.size from hp4.size))
    have hltL2 := hid (fun k hk => (Row.lt HI2.out k hk))
    have HP := hid ((HP3.out.then_ hp4).then_ hp5)
    have fin := hid (fun W (h : Kept (fun k => k = b ∨ k = bm ∨ k = d) w5 W) => HP.out.kept_then h (fun k hk => by have := HP3.out.size; have := hp4.size; omega))
    have hLk := hid (fun W (h : Kept (fun k => k = b ∨ k = bm ∨ k = d) w5 W) => (show Ints W (.slice a2' L.length c2') L from Row.kept HL.out h (fun k hk e => by have := hltL.out k hk; have := hltL2.out k hk; omega)))
    clear hA hR hp4 hp5
    go_wp2_with fail
    go_loopw [12] (fun i wr => ∃ (k : Nat) (uy : Value), k ≤ L.length + 1 ∧ i = .int .i64 k ∧ Duo b bm vo d uo uy w5 (TM.at_ O L need k) wr) (fun i _ => L.length + 1 - (RowKit.intOf i).toNat)
    case atStart => exact ⟨0, _, by omega, rfl, HD.out⟩
    case round =>
      obtain ⟨k, uy, hk, rfl, hT⟩ := hrel
      by_cases hle : k ≤ L.length
      · have hle' : (k : Int) ≤ (L.length : Int) := by omega
        obtain ⟨y, hy⟩ : ∃ y, y = (TM.at_ O L need k).owned := ⟨_, rfl⟩
        obtain ⟨n, hn⟩ : ∃ n, n = (srt (TM.at_ O L need k).yes).length := ⟨_, rfl⟩
        obtain ⟨M, hM⟩ : ∃ M, M = decide (((TM.at_ O L need k).owners.length : Int) / 2 + 1 ≤ (TM.at_ O L need k).owned) := ⟨_, rfl⟩
        have hy := hid hy.symm
        have hnn := hid hn.symm
        have hM := hid hM.symm
        have hD := hid (show decide ((TM.at_ O L need k).need ≤ ((TM.at_ O L need k).yes.length : Int)) = decide (need ≤ (n : Int)) by rw [hn, srt_len]; rfl)
        have hdl : (dd (L.take k)).length ≤ 20 := Nat.le_trans (dd_len _) (by rw [List.length_take]; omega)
        have hyl : (TM.at_ O L need k).yes.length < 1000 := by show (dd (L.take k)).length < 1000; omega
        have hyl := hid hyl
        have hux := hid hT.r.yes
        have hus := hT.r.yes.shape
        obtain ⟨au, cu, hue⟩ := hus
        have hue2 : uy = .slice au n cu := by rw [hn]; exact hue
        subst hue2
        clear hn hue hux
        have hoc := hid (TM.step O L need k)
        have hov := hid (@at_over O L need k)
        have hmiss := hid (fun W (v v' : Value) (q : Ints W v (TM.at_ O L need k).missing) (q' : Ints W v' (TM.at_ O L need k).missing) => same_at q q' true (by simp))
        have hoth := hid (fun W (v v' : Value) (q : Ints W v (TM.at_ O L need k).others) (q' : Ints W v' (TM.at_ O L need k).others) => same_at q q' true (by simp))
        have hall := hid (fun W (v v' : Value) (q : Ints W v (srt (TM.at_ O L need k).yes)) (q' : Ints W v' (srt (TM.at_ O L need k).yes)) => same_at q q' true (by simp))
        have hVx : ∃ V, V = decide (L.getD k 0 ∉ (TM.at_ O L need k).yes) := ⟨_, rfl⟩
        obtain ⟨V, hV⟩ := hVx
        have hV := hid hV.symm
        have hx := hid (fun h : k < L.length => hwl.get h)
        have hcell := hid (fun (h : k < L.length) W hW => ints_get (hLk.out W hW) h)
        generalize TM.at_ O L need k = c at *
        go_wp2_with fail
        refine (hT.missing).mono ?_
        rintro e w6 ⟨v6, rfl, hi6, hp6, hT6⟩
        obtain ⟨a6, c6, rfl⟩ := hi6.shape
        have Hi6 := hid hi6
        clear hi6 hp6 hT
        go_wp2_with fail
        refine (hT6.rmissing).mono ?_
        rintro e w7 ⟨v7, rfl, hi7, hp7, hT7⟩
        obtain ⟨a7, c7, rfl⟩ := hi7.shape
        have Hs := hid (hmiss.out w7 _ _ (Hi6.out.pure hp7) hi7)
        clear hi7 hp7 hT6
        go_wp2_with fail
        refine Hs.out.mono ?_
        rintro e w8 ⟨rfl, hp8⟩
        have hT8 := hT7.pure hp8
        clear hp8 hT7
        go_wp2_with fail
        refine (hT8.others).mono ?_
        rintro e w9 ⟨v9, rfl, hi9, hp9, hT9⟩
        obtain ⟨a9, c9, rfl⟩ := hi9.shape
        have Hi9 := hid hi9
        clear hi9 hp9 hT8
        go_wp2_with fail
        refine (hT9.rothers).mono ?_
        rintro e w10 ⟨v10, rfl, hi10, hp10, hT10⟩
        obtain ⟨a10, c10, rfl⟩ := hi10.shape
        have Hs2 := hid (hoth.out w10 _ _ (Hi9.out.pure hp10) hi10)
        clear hi10 hp10 hT9
        go_wp2_with fail
        refine Hs2.out.mono ?_
        rintro e w11 ⟨rfl, hp11⟩
        have hT11 := hT10.pure hp11
        clear hp11 hT10
        go_wp2_with fail
        have hD0 : Duo b bm vo d uo (.slice au n cu) w5 c w11.drew := hT11.pure (Below.refl _ _).drew
        clear hT11
        go_region_held3 (fun W => W.cell? ⟨d, 2, none⟩ = some (.slice au n cu) ∧ Duo b bm vo d uo (.slice au n cu) w5 c W)
          (first | exact Duo.cell (by assumption))
          (first
            | (go_at_call 17; refine (Duo.all (by assumption)).mono ?_; rintro e w12 ⟨v12, rfl, hi12, hp12, hT12⟩; obtain ⟨a12, c12, rfl⟩ := hi12.shape)
            | (go_at_call 12; refine (hall.out w12 _ _ hi12 hT12.r.yes).mono ?_; rintro e w13 ⟨rfl, hp13⟩; have hT13 := hT12.pure hp13))
        have HT13 := hid (show Duo b bm vo d uo (.slice au n cu) w5 c w13 from by assumption)
        clear hi12 hp12 hT12 hp13 hT13 hD0
        go_wp2_with fail
        have hD0 : Duo b bm vo d uo (.slice au n cu) w5 c w13.drew := HT13.out.pure (Below.refl _ _).drew
        go_region_held3 (fun W => W.cell? ⟨d, 2, none⟩ = some (.slice au n cu) ∧ Duo b bm vo d uo (.slice au n cu) w5 c W)
          (first | exact Duo.cell (by assumption))
          (first
            | (go_at_call 18; refine (Duo.count (by assumption) n hnn.out).mono ?_; rintro e w14 ⟨rfl, hT14⟩)
            | (go_at_call 19; refine (Duo.owned (by assumption) y hy.out).mono ?_; rintro e w15 ⟨rfl, hT15⟩)
            | (go_at_call 20; refine (Duo.rowned (by assumption) y hy.out).mono ?_; rintro e w16 ⟨rfl, hT16⟩)
            | (go_at_call 21; refine (Duo.done (by assumption) _ hD.out).mono ?_; rintro e w17 ⟨rfl, hT17⟩)
            | (go_at_call 22; refine (Duo.most (by assumption) M hM.out).mono ?_; rintro e w18 ⟨rfl, hT18⟩)
            | (go_at_call 23; refine (Duo.rmost (by assumption) M hM.out).mono ?_; rintro e w19 ⟨rfl, hT19⟩))
        have HT19 := hid (show Duo b bm vo d uo (.slice au n cu) w5 c w19 from by assumption)
        clear hD0 hT14 hT15 hT16 hT17 hT18 hT19
        by_cases hlt : k < L.length
        · have hlt' : (k : Int) < (L.length : Int) := by omega
          have hx := hx.out hlt
          obtain ⟨bl, off, rfl, _⟩ := hcell.out hlt w5 (Kept.refl _ _)
          have hC := hid (fun W (hW : Kept (fun k => k = b ∨ k = bm ∨ k = d) w5 W) => (show W.cell? ⟨bl, off + k, none⟩ = some (.int .i64 (L.getD k 0)) ∧ Kept (fun k => k = b ∨ k = bm ∨ k = d) w5 W from by
            obtain ⟨_, _, e, hc⟩ := hcell.out hlt W hW
            cases e
            exact ⟨hc, hW⟩))
          have hoc' := hid (hoc.out hlt)
          clear hoc hcell
          generalize L.getD k 0 = x at *
          go_wp2_with fail
          have hD0 : Duo b bm vo d uo (.slice au n cu) w5 c w19.drew := HT19.out.pure (Below.refl _ _).drew
          go_region_held3 (fun W => W.cell? ⟨bl, off + k, none⟩ = some (.int .i64 x) ∧ Kept (fun k => k = b ∨ k = bm ∨ k = d) w5 W)
            (first | exact hC.out _ (Duo.kept (by assumption)) | exact hC.out _ (Mid.kept (by assumption)))
            (first
              | (go_at_call 24; refine (Duo.yes hD0 x hx hyl.out V hV.out).mono ?_; rintro e w20 ⟨rfl, hM20⟩)
              | (go_at_call 25; refine (Mid.ryes hD0 hM20 x hyl.out rfl V hV.out hsz.out).mono ?_; rintro e w21 ⟨rfl, uy', hT21⟩))
          have HT21 := hid (show Duo b bm vo d uo uy' w5 (c.add x) w21 from by assumption)
          clear hD0 hM20 hT21
          go_wp2
          go_roundw
          case rel => exact ⟨k + 1, uy', by omega, by go_num, by rw [← hoc'.out]; exact HT21.out⟩
          case measure => simp [RowKit.intOf]; omega
        · have hge' : decide ((k : Int) < (L.length : Int)) = false := by simp; omega
          go_wp2_with fail
          go_quiet (fail)
          go_wp2
          go_roundw
          case rel => exact ⟨k + 1, _, by omega, by go_num, by rw [hov.out (by omega)]; exact HT19.out.pure (pure_drewN _ _)⟩
          case measure => simp [RowKit.intOf]; omega
      · have hle' : ¬ (k : Int) ≤ (L.length : Int) := by omega
        have Hf := hid (fin.out _ hT.kept)
        clear hT
        go_wp2
        go_ret
        exact ⟨rfl, Hf.out⟩
end Go.Proofs.Ythghccccjmbjlaa
