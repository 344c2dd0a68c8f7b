/- StateRecords: the walk. -/
import Derived.Test.YtdlpnhfgjficgaaGreatEL
import Derived.Test.YtdlpnhfgjficgaaGreatRN
import Derived.Test.YtdlpnhfgjficgaaGreatMWb
import Derived.Test.YtdlpnhfgjficgaaGreatMZa
import Derived.Test.YtdlpnhfgjficgaaGreatMBs
namespace Go.Proofs.YtdlpnhfgjficgaaGreat
open Go.RowKit Go.Maps Go.Shelf

theorem RSt2.zero {n m : Nat} {w : World} (h : RAt n 0 0 (List.replicate 51 (.slice none 0 0)) w) : RSt2 n m S0 w := by
  have hv : ∀ j, j < 51 → (List.replicate 51 (Value.slice none 0 0))[j]? = some (.slice none 0 0) := fun j hj => by rw [List.getElem?_replicate, if_pos hj]
  have hz : ∀ i, SRows i (List.replicate 51 (.slice none 0 0)) S0 w := fun i => by
    have hf : ∀ k, (Value.slice none 0 0).rb = some k → k ≠ i := fun k hk => by simp [Value.rb] at hk
    refine ⟨by simp, fun p hp => ⟨_, _, _, hv _ (by omega), hv _ (by omega), hv _ (by omega), ?_, hf, hf, hf⟩, ⟨_, hv _ (by omega), Row.nil _ _, hf⟩, ⟨_, hv _ (by omega), Row.nil _ _, hf⟩, ⟨_, hv _ (by omega), Row.nil _ _, hf⟩⟩
    have : S0.bags.getD p nb = nb := nb_get 16 p
    rw [this]
    exact ⟨Row.nil _ _, Row.nil _ _, Row.nil _ _⟩
  exact ⟨_, h, hz n, hz m⟩
theorem RFit.of {M : Nat} {S : SD} {t : List UInt8} (ok : SOk M S) (hb : BN 30 (bsz t)) (hM : M ≤ 870) : RFit S t := by
  refine ⟨fun p => (ok.bag p).v, hb.v, fun p => ?_, fun p => ?_⟩
  · have h1 := (ok.bag p).l
    have h2 := hb.l
    omega
  · have h1 := (ok.bag p).c
    have h2 := hb.c
    omega
/-- A record's box. -/
def XB (n : Nat) (x : Rc) (w : World) : Prop := w.heap[n]? = some (.cells #[.int .i64 x.k, .int .i64 x.n, .int .i64 x.p, .string (bs x.raw)] 39 (0, 0))
theorem XB.pure {n : Nat} {x : Rc} {w w' : World} (h : XB n x w) (hp : Pure w w') : XB n x w' := (hp.block _ (lt_of_block h)).trans h
theorem XB.kept {n m : Nat} {x : Rc} {w w' : World} (h : XB n x w) (hk : Kept (fun k => k = m) w w') (hn : n ≠ m) : XB n x w' := (hk.block _ (lt_of_block h) hn).trans h
theorem XB.cells {n : Nat} {x : Rc} {w : World} (h : XB n x w) : w.cell? ⟨n, 0, none⟩ = some (.int .i64 x.k) ∧ w.cell? ⟨n, 1, none⟩ = some (.int .i64 x.n) ∧ w.cell? ⟨n, 2, none⟩ = some (.int .i64 x.p) ∧ w.cell? ⟨n, 3, none⟩ = some (.string (bs x.raw)) := by
  have c0 := cell_of_block h 0
  have c1 := cell_of_block h 1
  have c2 := cell_of_block h 2
  have c3 := cell_of_block h 3
  simp at c0 c1 c2 c3
  exact ⟨c0, c1, c2, c3⟩
/-- What region 10 reads. -/
def SRW (n b : Nat) (v0 v1 v2 t0 t1 t2 : Value) (wz W : World) : Prop := W.cell? ⟨b, 0, none⟩ = some v0 ∧ W.cell? ⟨b, 1, none⟩ = some v1 ∧ W.cell? ⟨b, 2, none⟩ = some v2 ∧ W.cell? ⟨n, 50, none⟩ = some t0 ∧ W.cell? ⟨n, 51, none⟩ = some t1 ∧ W.cell? ⟨n, 52, none⟩ = some t2 ∧ Pure wz W
set_option maxRecDepth 8000 in
set_option maxHeartbeats 8000000 in
theorem records_walk (N P : Int) (X : Rc) (w : World) (hN : N < 9223372036854775808) (hP : P < 9223372036854775808) (hX : Rwf X) :
    Calls Tryz.prog 4 #[.int .i64 N, .int .i64 P, rcV X] w fun e w' => e = .returned (.bool true) ∧ Pure w w' := by
  have haw := hid awake19_any
  have Htx := hid (fun (k : Int) W => text_any ⟨k, X.n, X.p, X.raw⟩ W hX)
  have Hbz := hid (fun (k : Int) => bsz_text ⟨k, X.n, X.p, X.raw⟩)
  unfold TxP rcV at Htx
  dsimp only at Htx
  have hp15 := andK X.p 15 (by decide)
  obtain ⟨p, hp⟩ : ∃ p : Nat, bits .and .i64 X.p 15 = p := ⟨(bits .and .i64 X.p 15).toNat, by omega⟩
  have Hpn := hid (show p < 16 by omega)
  unfold rcV
  have Hb0 := hid (fun (W : World) => (show XB W.heap.size X (W.alloc (.cells #[.int .i64 X.k, .int .i64 X.n, .int .i64 X.p, .string (bs X.raw)] 39)) from block_alloc_new _ _))
  obtain ⟨x0, x1, x2, x3⟩ := X
  dsimp only at *
  have HN := hid hN
  have HP := hid hP
  have Hp := hid hp
  clear hp15 hX hN hP hp
  go_enter Tryz.func4, Tryz.ntmps4
  go_wp2_with fail
  have Hx := hid (Hb0.out w)
  have Hpx := hid (show Pure w (w.alloc (.cells #[.int .i64 x0, .int .i64 x1, .int .i64 x2, .string (bs x3)] 39)) from (Below.refl _ _).alloc (Nat.le_refl _) _)
  generalize w.alloc _ = wb at *
  refine (haw.out _).mono ?_
  rintro e w1 ⟨rfl, hp1⟩
  have Hp1 := hid (Hpx.out.then_ hp1)
  have Hx1 := hid (Hx.out.pure hp1)
  clear hp1 Hpx Hx Hb0
  go_wp2
  obtain ⟨w2, hw2⟩ : ∃ w2, w1.alloc (.cells #[.int .i64 0, .int .i64 0, .slice none 0 0, .slice none 0 0, .slice none 0 0, .slice none 0 0, .slice none 0 0, .slice none 0 0, .slice none 0 0, .slice none 0 0, .slice none 0 0, .slice none 0 0, .slice none 0 0, .slice none 0 0, .slice none 0 0, .slice none 0 0, .slice none 0 0, .slice none 0 0, .slice none 0 0, .slice none 0 0, .slice none 0 0, .slice none 0 0, .slice none 0 0, .slice none 0 0, .slice none 0 0, .slice none 0 0, .slice none 0 0, .slice none 0 0, .slice none 0 0, .slice none 0 0, .slice none 0 0, .slice none 0 0, .slice none 0 0, .slice none 0 0, .slice none 0 0, .slice none 0 0, .slice none 0 0, .slice none 0 0, .slice none 0 0, .slice none 0 0, .slice none 0 0, .slice none 0 0, .slice none 0 0, .slice none 0 0, .slice none 0 0, .slice none 0 0, .slice none 0 0, .slice none 0 0, .slice none 0 0, .slice none 0 0, .slice none 0 0, .slice none 0 0, .slice none 0 0] 53) = w2 := ⟨_, rfl⟩
  have Hs2 := hid (show RSt2 w1.heap.size w1.heap.size S0 w2 from RSt2.zero (by rw [← hw2]; exact block_alloc_new _ _))
  have Hp2 := hid (show Pure w w2 from by rw [← hw2]; exact Hp1.out.alloc Hp1.out.size _)
  have Hx2 := hid (show XB w.heap.size ⟨x0, x1, x2, x3⟩ w2 from by rw [← hw2]; exact Hx1.out.pure ((Below.refl _ _).alloc (Nat.le_refl _) _))
  have Hn := hid (show w.heap.size < w1.heap.size from lt_of_block Hx1.out)
  rw [hw2]
  clear hw2 Hp1 Hx1
  generalize w1.heap.size = n at *
  go_loopw [9] (fun i wr => ∃ (j : Nat) (S : SD), j ≤ 5 ∧ i = .int .i64 (2 + j : Nat) ∧ RSt2 n n S wr ∧ SOk (30 * j) S ∧ XB w.heap.size ⟨x0, x1, x2, x3⟩ wr ∧ Pure w wr) (fun i _ => 7 - (RowKit.intOf i).toNat)
  case atStart => exact ⟨0, S0, Nat.zero_le _, rfl, Hs2.out, SOk.zero 0, Hx2.out, Hp2.out⟩
  case round =>
    obtain ⟨j, S, hj, rfl, hst, hok, hx, hpr⟩ := hrel
    have Hst := hid hst
    have Hok := hid hok
    have Hx := hid hx
    have Hpr := hid hpr
    clear hst hok hx hpr
    by_cases hlt : j < 5
    · have hl1 : ((2 + j : Nat) : Int) < 7 := by omega
      have Ht := hid (Htx.out (2 + j : Nat))
      have Hb := hid (Hbz.out (2 + j : Nat))
      obtain ⟨c0, c1, c2, c3⟩ := Hx.out.cells
      dsimp only at c0 c1 c2 c3
      go_wp2_with fail
      refine (Ht.out _).mono ?_
      rintro e w5 ⟨rfl, hp5⟩
      have HP5 := hid (show Pure wr w5 from Pure.then_ ((Below.refl _ _).alloc (Nat.le_refl _) _) hp5)
      clear hp5 c0 c1 c2 c3
      generalize rtext ⟨(2 + j : Nat), x1, x2, x3⟩ = tx at *
      go_wp2_with fail
      refine (rapply_any n n (30 * j) S tx w5 (Hst.out.pure HP5.out) (Hst.out.pure HP5.out).lt Hok.out (RFit.of Hok.out Hb.out (by omega))).mono ?_
      rintro e w6 ⟨rfl, hs6, hk6⟩
      have HS6 := hid hs6
      have HO6 := hid (show SOk (30 * (j + 1)) (appl S tx).1 from Hok.out.appl Hb.out)
      have HX6 := hid ((Hx.out.pure HP5.out).kept hk6 (by have := Hn.out; omega))
      have HP6 := hid (pure_box (Hpr.out.then_ HP5.out) hk6 (Nat.le_of_lt Hn.out))
      clear hs6 hk6 Hst Hok Hx Hpr HP5
      generalize (appl S tx).1 = S6 at *
      generalize (appl S tx).2 = e6 at *
      go_wp2
      go_roundw
      case rel => exact ⟨j + 1, S6, by omega, by go_num, HS6.out, HO6.out, HX6.out, HP6.out⟩
      case measure => simp [RowKit.intOf]; omega
    · have hl1 : ¬ ((2 + j : Nat) : Int) < 7 := by omega
      obtain rfl : j = 5 := by omega
      clear hlt
      obtain ⟨r, hA, hR, -⟩ := Hst.out
      obtain ⟨v0, v1, v2, e0, e1, e2, hgr, -, -, -⟩ := hR.bag p Hpn.out
      have Hbn := hid (Hok.out.bag p)
      generalize S.bags.getD p nb = g at *
      obtain ⟨a0, c0, rfl⟩ := hgr.1.shape
      obtain ⟨a1, c1, rfl⟩ := hgr.2.1.shape
      obtain ⟨a2, c2, rfl⟩ := hgr.2.2.shape
      obtain ⟨k0, -⟩ := hA.at2 (j' := 2 + p * 3) e0 (by omega)
      obtain ⟨k1, -⟩ := hA.at2 (j' := 2 + p * 3 + 1) e1 (by omega)
      obtain ⟨k2, -⟩ := hA.at2 (j' := 2 + p * 3 + 2) e2 (by omega)
      obtain ⟨m0, -⟩ := (hA.pure ((Below.refl _ wr).alloc (Nat.le_refl _) (.cells #[.slice none 0 0, .slice none 0 0, .slice none 0 0] 34))).at2 (j' := 2 + p * 3) e0 (by omega)
      obtain ⟨m1, -⟩ := (hA.pure ((Below.refl _ wr).alloc (Nat.le_refl _) (.cells #[.slice none 0 0, .slice none 0 0, .slice none 0 0] 34))).at2 (j' := 2 + p * 3 + 1) e1 (by omega)
      obtain ⟨m2, -⟩ := (hA.pure ((Below.refl _ wr).alloc (Nat.le_refl _) (.cells #[.slice none 0 0, .slice none 0 0, .slice none 0 0] 34))).at2 (j' := 2 + p * 3 + 2) e2 (by omega)
      obtain ⟨-, -, q2, -⟩ := Hx.out.cells
      obtain ⟨-, -, q3, -⟩ := (Hx.out.pure ((Below.refl _ wr).alloc (Nat.le_refl _) (.cells #[.slice none 0 0, .slice none 0 0, .slice none 0 0] 34))).cells
      dsimp only at q2 q3
      have hpe : bits .and .i64 x2 15 = (p : Int) := Hp.out
      have hpp : (p : Int) < 16 := by have := Hpn.out; omega
      have hp0 : ¬ (p : Int) < 0 := by omega
      have hp16 : ¬ (16 : Int) ≤ (p : Int) := by omega
      have hpn : (0 : Int) ≤ (p : Int) := by omega
      have HA := hid hA
      have HR := hid hR
      have Hgr := hid hgr
      clear hA hR hgr e0 e1 e2
      go_upto_region 9 with fail
      go_region_law (fail)
      all_goals
        go_upto_region 10 with fail
        obtain ⟨wz, hwz⟩ : ∃ wz, wz = (wr.alloc (.cells #[.slice a0 g.1.length c0, .slice a1 g.2.1.length c1, .slice a2 g.2.2.length c2] 34)).drew := ⟨_, rfl⟩
        have Hz := hid (show Pure wr wz from by rw [hwz]; exact ((Below.refl _ _).alloc (Nat.le_refl _) _).drew)
        have Hbx := hid (show wz.heap[wr.heap.size]? = some (.cells #[.slice a0 g.1.length c0, .slice a1 g.2.1.length c1, .slice a2 g.2.2.length c2] 34 (0, 0)) from by rw [hwz]; exact block_alloc_new _ _)
        rw [← hwz]
        clear hwz k0 k1 k2 m0 m1 m2 q2 q3 hpe hpp hp0 hp16 hpn
        obtain ⟨t0, y0, HT, -⟩ := HR.out.tags
        obtain ⟨t1, y1, HV, -⟩ := HR.out.view
        obtain ⟨t2, y2, HH, -⟩ := HR.out.holds
        have Y0 := hid y0
        have Y1 := hid y1
        have Y2 := hid y2
        have Htg := hid Hok.out.tags
        have Hvw := hid Hok.out.view
        have Hho := hid Hok.out.holds
        generalize S.tags = T at *
        generalize S.view = V at *
        generalize S.holds = H at *
        have j1 := hid (fun W => sborn_all N W HN.out)
        have j2 := hid (fun W => rborn_all N W HN.out)
        have j3 := hid (fun W => sreserve_all N W HN.out)
        have j4 := hid (fun W => rreserve_all N W HN.out)
        have j5 := hid (fun W (hW : Pure wz W) => sjoined_all P _ _ _ g (30 * 5) W (Hgr.out.pure (Hz.out.then_ hW)) Hbn.out (by decide) HP.out)
        have j6 := hid (fun W (hW : Pure wz W) => rjoined_all P _ _ _ g (30 * 5) W (Hgr.out.pure (Hz.out.then_ hW)) Hbn.out (by decide) HP.out)
        have j7 := hid (fun W (hW : Pure wz W) => stagged_any t0 T W (Row.pure HT (Hz.out.then_ hW)) Htg.out)
        have j8 := hid (fun W (hW : Pure wz W) => rtagged_any t0 T W (Row.pure HT (Hz.out.then_ hW)) Htg.out)
        have j9 := hid (fun W (hW : Pure wz W) => sseen_any t1 V W (Row.pure HV (Hz.out.then_ hW)) Hvw.out)
        have j10 := hid (fun W (hW : Pure wz W) => rseen_any t1 V W (Row.pure HV (Hz.out.then_ hW)) Hvw.out)
        have j11 := hid (fun W (hW : Pure wz W) => sheld_any t2 H W (Row.pure HH (Hz.out.then_ hW)) Hho.out)
        have j12 := hid (fun W (hW : Pure wz W) => rheld_any t2 H W (Row.pure HH (Hz.out.then_ hW)) Hho.out)
        have hS : Hid (∀ W, Pure wz W → SRW n wr.heap.size (.slice a0 g.1.length c0) (.slice a1 g.2.1.length c1) (.slice a2 g.2.2.length c2) t0 t1 t2 wz W) := fun W hW => by
          have hA1 := HA.out.pure (Hz.out.then_ hW)
          have e := (hW.block _ (lt_of_block Hbx.out)).trans Hbx.out
          exact ⟨cell_of_block e 0, cell_of_block e 1, cell_of_block e 2, (hA1.at2 (j' := 50) Y0.out rfl).1, (hA1.at2 (j' := 51) Y1.out rfl).1, (hA1.at2 (j' := 52) Y2.out rfl).1, hW⟩
        unfold SRW at hS
        have hst := hid (hS.out wz.drew (Below.refl _ _).drew)
        have HPz := hid (Hpr.out.then_ Hz.out)
        clear y0 y1 y2 HT HV HH Y0 Y1 Y2 HA HR Hgr Hbx Hbn Hz
        generalize bs (73 :: num N.toNat) = s1 at *
        generalize bs (82 :: num N.toNat) = s2 at *
        generalize bs (66 :: (num P.toNat ++ bagB g)) = s3 at *
        generalize bs (78 :: tagsB T) = s4 at *
        generalize bs (86 :: viewB V) = s5 at *
        generalize bs (72 :: holdsB H) = s6 at *
        generalize g.1.length = g0 at *
        generalize g.2.1.length = g1 at *
        generalize g.2.2.length = g2 at *
        generalize hbx : wr.heap.size = bx at *
        refine wp_region_held_drew (S := (fun W => W.cell? ⟨bx, 0, none⟩ = some (.slice a0 g0 c0) ∧ W.cell? ⟨bx, 1, none⟩ = some (.slice a1 g1 c1) ∧ W.cell? ⟨bx, 2, none⟩ = some (.slice a2 g2 c2) ∧ W.cell? ⟨n, 50, none⟩ = some t0 ∧ W.cell? ⟨n, 51, none⟩ = some t1 ∧ W.cell? ⟨n, 52, none⟩ = some t2 ∧ Pure wz W)) (by kernel_rfl) ?_ (fun hHeld => ?_)
        · first | with_reducible exact hst.out | with_reducible exact hS.out _ (Pure.then_ hHeld.2.2.2.2.2.2 (by assumption))
        refine tkA 0 ?_
        refine tkA 1 ?_
        refine tkA 2 ?_
        refine tkA 4 ?_
        refine wpAnyH_ready (rs := [3]) (by kernel_rfl) (by simp) ?_
        refine AllReadyH.cons rfl (fun K hK => ?_) AllReadyH.nil
        (try simp only [List.getElem_toArray, List.getElem_cons_succ, List.getElem_cons_zero])
        go_simp
        go_at_call 19; refine (j1.out _).mono ?_; rintro e z0 ⟨rfl, hp0⟩
        refine hK.out _ _ ?_ (fun hHeld => ?_)
        · first | with_reducible exact hst.out | with_reducible exact hS.out _ (Pure.then_ hHeld.2.2.2.2.2.2 (by assumption))
        clear hK K
        try simp only [Act.put, List.setIfInBounds_toArray, List.set_cons_zero, List.set_cons_succ, List.getElem_toArray, List.getElem_cons_succ, List.getElem_cons_zero]
        refine wpAnyH_ready (rs := [5]) (by kernel_rfl) (by simp) ?_
        refine AllReadyH.cons rfl (fun K hK => ?_) AllReadyH.nil
        (try simp only [List.getElem_toArray, List.getElem_cons_succ, List.getElem_cons_zero])
        go_simp
        go_at_call 20; refine (j2.out _).mono ?_; rintro e z1 ⟨rfl, hp1⟩
        refine hK.out _ _ ?_ (fun hHeld => ?_)
        · first | with_reducible exact hst.out | with_reducible exact hS.out _ (Pure.then_ hHeld.2.2.2.2.2.2 (by assumption))
        clear hK K
        try simp only [Act.put, List.setIfInBounds_toArray, List.set_cons_zero, List.set_cons_succ, List.getElem_toArray, List.getElem_cons_succ, List.getElem_cons_zero]
        refine tkA 6 ?_
        refine tkA 7 ?_
        refine tkA 8 ?_
        refine tkA 9 ?_
        refine tkA 11 ?_
        refine wpAnyH_ready (rs := [10]) (by kernel_rfl) (by simp) ?_
        refine AllReadyH.cons rfl (fun K hK => ?_) AllReadyH.nil
        (try simp only [List.getElem_toArray, List.getElem_cons_succ, List.getElem_cons_zero])
        go_simp
        go_at_call 21; refine (j3.out _).mono ?_; rintro e z2 ⟨rfl, hp2⟩
        refine hK.out _ _ ?_ (fun hHeld => ?_)
        · first | with_reducible exact hst.out | with_reducible exact hS.out _ (Pure.then_ hHeld.2.2.2.2.2.2 (by assumption))
        clear hK K
        try simp only [Act.put, List.setIfInBounds_toArray, List.set_cons_zero, List.set_cons_succ, List.getElem_toArray, List.getElem_cons_succ, List.getElem_cons_zero]
        refine wpAnyH_ready (rs := [12]) (by kernel_rfl) (by simp) ?_
        refine AllReadyH.cons rfl (fun K hK => ?_) AllReadyH.nil
        (try simp only [List.getElem_toArray, List.getElem_cons_succ, List.getElem_cons_zero])
        go_simp
        go_at_call 22; refine (j4.out _).mono ?_; rintro e z3 ⟨rfl, hp3⟩
        refine hK.out _ _ ?_ (fun hHeld => ?_)
        · first | with_reducible exact hst.out | with_reducible exact hS.out _ (Pure.then_ hHeld.2.2.2.2.2.2 (by assumption))
        clear hK K
        try simp only [Act.put, List.setIfInBounds_toArray, List.set_cons_zero, List.set_cons_succ, List.getElem_toArray, List.getElem_cons_succ, List.getElem_cons_zero]
        refine tkA 13 ?_
        refine tkA 14 ?_
        refine tkA 15 ?_
        refine tkA 16 ?_
        refine tkA 17 ?_
        refine tkA 19 ?_
        refine tkA 20 ?_
        refine wpAnyH_ready (rs := [18]) (by kernel_rfl) (by simp) ?_
        refine AllReadyH.cons rfl (fun K hK => ?_) AllReadyH.nil
        (try simp only [List.getElem_toArray, List.getElem_cons_succ, List.getElem_cons_zero])
        go_simp
        go_at_call 23; refine (j5.out _ hHeld.2.2.2.2.2.2).mono ?_; rintro e z4 ⟨rfl, hp4⟩
        refine hK.out _ _ ?_ (fun hHeld => ?_)
        · first | with_reducible exact hst.out | with_reducible exact hS.out _ (Pure.then_ hHeld.2.2.2.2.2.2 (by assumption))
        clear hK K
        try simp only [Act.put, List.setIfInBounds_toArray, List.set_cons_zero, List.set_cons_succ, List.getElem_toArray, List.getElem_cons_succ, List.getElem_cons_zero]
        refine wpAnyH_ready (rs := [21]) (by kernel_rfl) (by simp) ?_
        refine AllReadyH.cons rfl (fun K hK => ?_) AllReadyH.nil
        (try simp only [List.getElem_toArray, List.getElem_cons_succ, List.getElem_cons_zero])
        go_simp
        go_at_call 24; refine (j6.out _ hHeld.2.2.2.2.2.2).mono ?_; rintro e z5 ⟨rfl, hp5⟩
        refine hK.out _ _ ?_ (fun hHeld => ?_)
        · first | with_reducible exact hst.out | with_reducible exact hS.out _ (Pure.then_ hHeld.2.2.2.2.2.2 (by assumption))
        clear hK K
        try simp only [Act.put, List.setIfInBounds_toArray, List.set_cons_zero, List.set_cons_succ, List.getElem_toArray, List.getElem_cons_succ, List.getElem_cons_zero]
        refine tkA 22 ?_
        refine tkA 23 ?_
        refine tkA 24 ?_
        refine tkA 25 ?_
        refine tkA 26 ?_
        refine tkA 27 ?_
        refine tkA 28 ?_
        refine tkA 30 ?_
        refine tkA 31 ?_
        refine tkA 32 ?_
        refine tkA 33 ?_
        refine wpAnyH_ready (rs := [29]) (by kernel_rfl) (by simp) ?_
        refine AllReadyH.cons rfl (fun K hK => ?_) AllReadyH.nil
        (try simp only [List.getElem_toArray, List.getElem_cons_succ, List.getElem_cons_zero])
        go_simp
        go_at_call 25; refine (j7.out _ hHeld.2.2.2.2.2.2).mono ?_; rintro e z6 ⟨rfl, hp6⟩
        refine hK.out _ _ ?_ (fun hHeld => ?_)
        · first | with_reducible exact hst.out | with_reducible exact hS.out _ (Pure.then_ hHeld.2.2.2.2.2.2 (by assumption))
        clear hK K
        try simp only [Act.put, List.setIfInBounds_toArray, List.set_cons_zero, List.set_cons_succ, List.getElem_toArray, List.getElem_cons_succ, List.getElem_cons_zero]
        refine wpAnyH_ready (rs := [34]) (by kernel_rfl) (by simp) ?_
        refine AllReadyH.cons rfl (fun K hK => ?_) AllReadyH.nil
        (try simp only [List.getElem_toArray, List.getElem_cons_succ, List.getElem_cons_zero])
        go_simp
        go_at_call 26; refine (j8.out _ hHeld.2.2.2.2.2.2).mono ?_; rintro e z7 ⟨rfl, hp7⟩
        refine hK.out _ _ ?_ (fun hHeld => ?_)
        · first | with_reducible exact hst.out | with_reducible exact hS.out _ (Pure.then_ hHeld.2.2.2.2.2.2 (by assumption))
        clear hK K
        try simp only [Act.put, List.setIfInBounds_toArray, List.set_cons_zero, List.set_cons_succ, List.getElem_toArray, List.getElem_cons_succ, List.getElem_cons_zero]
        refine tkA 35 ?_
        refine tkA 36 ?_
        refine tkA 37 ?_
        refine tkA 38 ?_
        refine tkA 39 ?_
        refine tkA 40 ?_
        refine tkA 41 ?_
        refine tkA 43 ?_
        refine tkA 44 ?_
        refine tkA 45 ?_
        refine tkA 46 ?_
        refine wpAnyH_ready (rs := [42]) (by kernel_rfl) (by simp) ?_
        refine AllReadyH.cons rfl (fun K hK => ?_) AllReadyH.nil
        (try simp only [List.getElem_toArray, List.getElem_cons_succ, List.getElem_cons_zero])
        go_simp
        go_at_call 27; refine (j9.out _ hHeld.2.2.2.2.2.2).mono ?_; rintro e z8 ⟨rfl, hp8⟩
        refine hK.out _ _ ?_ (fun hHeld => ?_)
        · first | with_reducible exact hst.out | with_reducible exact hS.out _ (Pure.then_ hHeld.2.2.2.2.2.2 (by assumption))
        clear hK K
        try simp only [Act.put, List.setIfInBounds_toArray, List.set_cons_zero, List.set_cons_succ, List.getElem_toArray, List.getElem_cons_succ, List.getElem_cons_zero]
        refine wpAnyH_ready (rs := [47]) (by kernel_rfl) (by simp) ?_
        refine AllReadyH.cons rfl (fun K hK => ?_) AllReadyH.nil
        (try simp only [List.getElem_toArray, List.getElem_cons_succ, List.getElem_cons_zero])
        go_simp
        go_at_call 28; refine (j10.out _ hHeld.2.2.2.2.2.2).mono ?_; rintro e z9 ⟨rfl, hp9⟩
        refine hK.out _ _ ?_ (fun hHeld => ?_)
        · first | with_reducible exact hst.out | with_reducible exact hS.out _ (Pure.then_ hHeld.2.2.2.2.2.2 (by assumption))
        clear hK K
        try simp only [Act.put, List.setIfInBounds_toArray, List.set_cons_zero, List.set_cons_succ, List.getElem_toArray, List.getElem_cons_succ, List.getElem_cons_zero]
        refine tkA 48 ?_
        refine tkA 49 ?_
        refine tkA 50 ?_
        refine tkA 51 ?_
        refine tkA 52 ?_
        refine tkA 53 ?_
        refine tkA 54 ?_
        refine tkA 56 ?_
        refine tkA 57 ?_
        refine tkA 58 ?_
        refine tkA 59 ?_
        refine wpAnyH_ready (rs := [55]) (by kernel_rfl) (by simp) ?_
        refine AllReadyH.cons rfl (fun K hK => ?_) AllReadyH.nil
        (try simp only [List.getElem_toArray, List.getElem_cons_succ, List.getElem_cons_zero])
        go_simp
        go_at_call 29; refine (j11.out _ hHeld.2.2.2.2.2.2).mono ?_; rintro e z10 ⟨rfl, hp10⟩
        refine hK.out _ _ ?_ (fun hHeld => ?_)
        · first | with_reducible exact hst.out | with_reducible exact hS.out _ (Pure.then_ hHeld.2.2.2.2.2.2 (by assumption))
        clear hK K
        try simp only [Act.put, List.setIfInBounds_toArray, List.set_cons_zero, List.set_cons_succ, List.getElem_toArray, List.getElem_cons_succ, List.getElem_cons_zero]
        refine wpAnyH_ready (rs := [60]) (by kernel_rfl) (by simp) ?_
        refine AllReadyH.cons rfl (fun K hK => ?_) AllReadyH.nil
        (try simp only [List.getElem_toArray, List.getElem_cons_succ, List.getElem_cons_zero])
        go_simp
        go_at_call 30; refine (j12.out _ hHeld.2.2.2.2.2.2).mono ?_; rintro e z11 ⟨rfl, hp11⟩
        refine hK.out _ _ ?_ (fun hHeld => ?_)
        · first | with_reducible exact hst.out | with_reducible exact hS.out _ (Pure.then_ hHeld.2.2.2.2.2.2 (by assumption))
        clear hK K
        try simp only [Act.put, List.setIfInBounds_toArray, List.set_cons_zero, List.set_cons_succ, List.getElem_toArray, List.getElem_cons_succ, List.getElem_cons_zero]
        refine tkA 61 ?_
        refine tkA 62 ?_
        refine tkA 63 ?_
        refine wpAnyH_done (by kernel_rfl) ?_ _
        have hfin := hHeld.2.2.2.2.2.2
        have Hfin := hid (HPz.out.then_ hfin)
        clear hHeld hfin
        go_wp2
        go_ret
        exact ⟨rfl, Hfin.out⟩
end Go.Proofs.YtdlpnhfgjficgaaGreat
