/- law06: a plan's bag. SiftDiffers. -/
import Derived.Test.YtcjggofcmjpfnaaGreatMSd
import Derived.Test.YtcjggofcmjpfnaaGreatBools
import Derived.Deep.CutRange
namespace Go.Proofs.YtcjggofcmjpfnaaGreat
open Go.RowKit Go.Maps Go.Shelf Go.Sort

theorem take5 (l : List UInt8) : (bs l).extract 0 5 = bs (l.take 5) := by
  apply ByteArray.ext
  simp [bs, ByteArray.data_extract]
/-- What lies in memory while a plan's bag is being made: the plan in block s, the result in s + 1, the bag in s + 2. -/
structure PlW (s : Nat) (wz : World) (x0 x1 x2 : Value) (g : Bag) (W : World) : Prop where
  x : BX (s + 2) x0 x1 x2 g W
  f : BFr (s + 3) x0 x1 x2
  k : Kept (fun k => k = s + 2) wz W

theorem PlW.pure {s : Nat} {wz W W' : World} {x0 x1 x2 : Value} {g : Bag} (h : PlW s wz x0 x1 x2 g W) (hp : Pure W W') : PlW s wz x0 x1 x2 g W' := ⟨h.x.pure hp, h.f, h.k.trans hp.kept⟩
/-- Another bag is laid into it. -/
theorem PlW.set {s : Nat} {wz W : World} {x0 x1 x2 v0 v1 v2 : Value} {g h : Bag} (hP : PlW s wz x0 x1 x2 g W) (hr : BR3 v0 v1 v2 h W) (hf : BFr (s + 3) v0 v1 v2) :
    PlW s wz v0 v1 v2 h (((W.setCell ⟨s + 1 + 1, 0, none⟩ v0).setCell ⟨s + 1 + 1, 1, none⟩ v1).setCell ⟨s + 1 + 1, 2, none⟩ v2) :=
  ⟨⟨set3 hP.x.b v0 v1 v2, hr.kept (kept3 W (s + 2) v0 v1 v2) (fun k hk e => by have := hf.1 k hk; omega) (fun k hk e => by have := hf.2.1 k hk; omega) (fun k hk e => by have := hf.2.2 k hk; omega)⟩, hf, hP.k.trans (kept3 W (s + 2) v0 v1 v2)⟩
theorem PlW.cells {s : Nat} {wz W : World} {x0 x1 x2 : Value} {g : Bag} (h : PlW s wz x0 x1 x2 g W) : W.cell? ⟨s + 1 + 1, 0, none⟩ = some x0 ∧ W.cell? ⟨s + 1 + 1, 1, none⟩ = some x1 ∧ W.cell? ⟨s + 1 + 1, 2, none⟩ = some x2 ∧ W.frozen? ⟨s + 1 + 1, 0, none⟩ = false ∧ W.frozen? ⟨s + 1 + 1, 1, none⟩ = false ∧ W.frozen? ⟨s + 1 + 1, 2, none⟩ = false :=
  ⟨cell_of_block h.x.b 0, cell_of_block h.x.b 1, cell_of_block h.x.b 2, free_of_block h.x.b 0, free_of_block h.x.b 1, free_of_block h.x.b 2⟩
/-- ref05's Put, as plans ask it. -/
theorem rput_plan {v0 v1 v2 : Value} {g : Bag} (m : Msg) {U : List Dot} {W : World} (hr : BR3 v0 v1 v2 g W) (hg : BOk U g) (hU : U.length ≤ 400) (hm : mmay m = true) (hn : chas g.2.1 g.2.2 m.1 = false) :
    Calls Tryz.prog 30 #[.agg #[v0, v1, v2], mv m] W (BagT W (bput g m) 0) :=
  (rput_ok v0 v1 v2 g.1 g.2.1 g.2.2 m W hr.1 hr.2.1 hr.2.2 hm hn (by have := hg.len; omega) (by have := hg.sml.l0; have := hg.sml.l1; omega) hg.sml.bd).mono fun _ _ ⟨v, he, h1, h2, h3⟩ => by
    obtain ⟨u0, u1, u2, rfl, q0, q1, q2⟩ := h1
    exact ⟨u0, u1, u2, he, ⟨q0, q1, q2⟩, h2, h3 _ _ _ rfl⟩
theorem rremove_plan {v0 v1 v2 : Value} {g : Bag} (d : Dot) {U : List Dot} {W : World} (hr : BR3 v0 v1 v2 g W) (hg : BOk U g) (hU : U.length ≤ 400) (hd : dchk d = true) :
    Calls Tryz.prog 31 #[.agg #[v0, v1, v2], dv d] W (BagT W (bremove g d) 0) :=
  rremove_ok v0 v1 v2 g d W hr hd (by have := hg.len; omega) (by have := hg.sml.l0; have := hg.sml.l1; omega) hg.sml.bd

set_option maxRecDepth 8000 in
set_option maxHeartbeats 4000000 in
theorem plan_any (vM : Value) (M : List Msg) (ag : Option Addr) (lg cg : Nat) (G : List Bool) (w : World) (hM : Msgs w vM M) (hG : BoolsAt w ag lg cg G) :
    Calls Tryz.prog 10 #[.agg #[vM, .slice ag lg cg]] w (BagO w (planB M G)) := by
  obtain ⟨aM, cM, rfl⟩ := hM.shape
  have hMl := hM.len_le
  unfold maxLen at hMl
  obtain ⟨wz, hwz⟩ : ∃ wz, wz = ((w.alloc (.cells #[.slice aM M.length cM, .slice ag lg cg] 25)).alloc (.cells #[.slice none 0 0, .slice none 0 0, .slice none 0 0] 31)).alloc (.cells #[.slice none 0 0, .slice none 0 0, .slice none 0 0] 31) := ⟨_, rfl⟩
  have Hpz := hid (show Pure w wz from by rw [hwz]; exact (((Below.refl _ _).alloc (Nat.le_refl _) _).alloc (by simp) _).alloc (by simp; omega) _)
  have Hsz := hid (show wz.heap.size = w.heap.size + 3 from by rw [hwz]; simp)
  have n1 := block_alloc_new (w.alloc (.cells #[.slice aM M.length cM, .slice ag lg cg] 25)) (.cells #[.slice none 0 0, .slice none 0 0, .slice none 0 0] 31)
  have n2 := block_alloc_new ((w.alloc (.cells #[.slice aM M.length cM, .slice ag lg cg] 25)).alloc (.cells #[.slice none 0 0, .slice none 0 0, .slice none 0 0] 31)) (.cells #[.slice none 0 0, .slice none 0 0, .slice none 0 0] 31)
  simp only [World.size_alloc] at n1 n2
  have hbk : Hid (wz.heap[w.heap.size]? = some (.cells #[.slice aM M.length cM, .slice ag lg cg] 25 (0, 0)) ∧ RsB (w.heap.size + 1) wz ∧ wz.heap[w.heap.size + 2]? = some (.cells #[.slice none 0 0, .slice none 0 0, .slice none 0 0] 31 (0, 0))) := by
    show _ ∧ wz.heap[w.heap.size + 1]? = _ ∧ _
    rw [hwz]
    exact ⟨block_alloc_old (block_alloc_old (block_alloc_new _ _) _) _, block_alloc_old n1 _, n2⟩
  clear n1 n2
  have HF : Hid (∀ W, Kept (fun k => k = w.heap.size + 2) wz W → (W.cell? ⟨w.heap.size, 0, none⟩ = some (.slice aM M.length cM) ∧ W.cell? ⟨w.heap.size, 1, none⟩ = some (.slice ag lg cg) ∧ Msgs W (.slice aM M.length cM) M ∧ BoolsAt W ag lg cg G ∧ RsB (w.heap.size + 1) W)) := fun W hW => by
    have e0 := (hW.block _ (lt_of_block hbk.out.1) (by omega)).trans hbk.out.1
    have e1 := (hW.block _ (lt_of_block hbk.out.2.1) (by omega)).trans hbk.out.2.1
    refine ⟨cell_of_block e0 0, cell_of_block e0 1, Row.kept (Row.pure hM Hpz.out) hW (fun k hk e => by have := Row.lt hM k hk; omega), ⟨hG.len, hG.le, hG.cap_le, fun k hk => ?_⟩, e1⟩
    obtain ⟨b, off, e, hb, hc⟩ := hG.cell k hk
    have hs := Hsz.out
    have hWs := hW.size
    exact ⟨b, off, e, by omega, (hW.cell (p := ⟨b, off + k, none⟩) (by show b < _; omega) (by show ¬ b = _; omega)).trans ((Hpz.out.cell (p := ⟨b, off + k, none⟩) hb).trans hc)⟩
  have Hst := hid (show PlW w.heap.size wz (.slice none 0 0) (.slice none 0 0) (.slice none 0 0) ([], [], []) wz from ⟨⟨hbk.out.2.2, BR3.nil _⟩, BFr.nil _, Kept.refl _ _⟩)
  have hok := hid (fun k => planK_ok M G k)
  have Hgl := hid hG.len
  clear hM hG
  go_enter Tryz.func10, Tryz.ntmps10
  go_wp2_with fail
  rw [← hwz]
  clear hwz
  go_loopw [4] (fun i wr => ∃ (k : Nat) (x0 x1 x2 : Value), k ≤ M.length ∧ k ≤ 12 ∧ i = .int .i64 k ∧ PlW w.heap.size wz x0 x1 x2 (planK M G k) wr) (fun i _ => M.length - (RowKit.intOf i).toNat)
  case atStart => exact ⟨0, _, _, _, Nat.zero_le _, Nat.zero_le _, rfl, Hst.out⟩
  case round =>
    obtain ⟨k, x0, x1, x2, hk, hk12, rfl, hP⟩ := hrel
    obtain ⟨g0, g1, hM, hG, -⟩ := HF.out wr hP.k
    by_cases hlt : k < M.length ∧ k < 12
    · obtain ⟨hlt, h12⟩ := hlt
      have hlt' : (k : Int) < (M.length : Int) := by omega
      have h12' : (k : Int) < 12 := by omega
      obtain ⟨b, off, rfl, hb, z0, z1, z2, z3, z4⟩ := Msgs.get hM hlt
      have Hs := hid (show planK M G (k + 1) = pstep (planK M G k) (M.getD k m0) (G.getD k false) from rfl)
      have Hok := hid (hok.out k)
      generalize planK M G k = g at *
      generalize M.getD k m0 = z at *
      obtain ⟨⟨zx, zy⟩, zq, zb, zc⟩ := z
      dsimp only at z0 z1 z2 z3 z4
      have hbz := bs_size zb
      have ht5 := take5 zb
      have hnx : 0 ≤ bits .and .i64 zx 3 ∧ bits .and .i64 zx 3 ≤ 3 := and_le zx 3 (by decide)
      have hny : 0 ≤ bits .and .i64 zy 15 ∧ bits .and .i64 zy 15 ≤ 15 := and_le zy 15 (by decide)
      have hw1 : wrap64 (1 + bits .and .i64 zx 3) = 1 + bits .and .i64 zx 3 := by unfold wrap64; omega
      have hw2 : wrap64 (1 + bits .and .i64 zy 15) = 1 + bits .and .i64 zy 15 := by unfold wrap64; omega
      have Hpm := hid (show pmsg ((zx, zy), zq, zb, zc) = ((1 + bits .and .i64 zx 3, 1 + bits .and .i64 zy 15), [113], zb.take 5, bits .and .i64 zc 255) from rfl)
      have Hpn := hid (show pname (zx, zy) = (1 + bits .and .i64 zx 3, 1 + bits .and .i64 zy 15) from rfl)
      have Hmay := hid (pmsg_may ((zx, zy), zq, zb, zc))
      have Hchk := hid (pname_chk (zx, zy))
      go_upto_if 40 with fail
      go_cut [] from 8 to 76 (fun wx => wx = wr.alloc (.cells #[.int .i64 (1 + bits .and .i64 zx 3), .int .i64 (1 + bits .and .i64 zy 15), .string ⟨#[113]⟩, .string (bs (zb.take 5)), .int .i64 zc] 57))
      case first =>
        by_cases h5 : 5 < zb.length
        · have h5' : (5 : Int) < (bs zb).size := by omega
          have h5c : 5 ≤ (bs zb).size := by omega
          go_wp2
          go_meet
          case rel => trivial
        · have h5' : ¬ (5 : Int) < (bs zb).size := by omega
          have e5 : zb.take 5 = zb := List.take_of_length_le (by omega)
          go_wp2
          go_meet
          case rel => rw [e5]
      case rest =>
      subst hcut
      have Hpp := hid (show pput g (pmsg ((zx, zy), zq, zb, zc)) = if chas g.2.1 g.2.2 (pmsg ((zx, zy), zq, zb, zc)).1 then g else bput g (pmsg ((zx, zy), zq, zb, zc)) from rfl)
      have Hps := hid (show pstep g ((zx, zy), zq, zb, zc) (G.getD k false) = if G.getD k false then bremove (pput g (pmsg ((zx, zy), zq, zb, zc))) (pname (zx, zy)) else pput g (pmsg ((zx, zy), zq, zb, zc)) from rfl)
      have Hok2 := hid (pput_ok Hok.out ((zx, zy), zq, zb, zc))
      rw [Hpm.out] at Hpp Hps Hmay Hok2
      rw [Hpn.out] at Hps Hchk
      clear hw1 hw2 hnx hny z0 z1 z2 z3 z4 ht5 hbz g0 g1 hM hb
      generalize 1 + bits .and .i64 zx 3 = nx at *
      generalize 1 + bits .and .i64 zy 15 = ny at *
      generalize zb.take 5 = qb at *
      obtain ⟨wb, hwb⟩ : ∃ wb, wb = wr.alloc (.cells #[.int .i64 nx, .int .i64 ny, .string ⟨#[113]⟩, .string (bs qb), .int .i64 (bits .and .i64 zc 255)] 57) := ⟨_, rfl⟩
      have hpb : Pure wr wb := by rw [hwb]; exact (Below.refl _ _).alloc (Nat.le_refl _) _
      have HPb := hid (hP.pure hpb)
      have Hmb := hid (show wb.heap[wr.heap.size]? = some (.cells #[.int .i64 nx, .int .i64 ny, .string ⟨#[113]⟩, .string (bs qb), .int .i64 (bits .and .i64 zc 255)] 57 (0, 0)) from by rw [hwb]; exact block_alloc_new _ _)
      obtain ⟨y0, k0, rfl⟩ := hP.x.r.1.shape
      obtain ⟨y1, k1, rfl⟩ := hP.x.r.2.1.shape
      obtain ⟨y2, k2, rfl⟩ := hP.x.r.2.2.shape
      have Hwr := hid hP.k.size
      clear hP hpb hG
      go_upto_region 11 with fail
      rw [← hwb]
      clear hwb
      generalize bits .and .i64 zc 255 = cc at *
      have hq : (⟨#[113]⟩ : ByteArray) = bs [113] := rfl
      rw [hq] at Hmb
      obtain ⟨c0, c1, c2, -, -, -⟩ := HPb.out.cells
      have m0' := cell_of_block Hmb.out 0
      have m1 := cell_of_block Hmb.out 1
      have m2 := cell_of_block Hmb.out 2
      have m3 := cell_of_block Hmb.out 3
      have m4 := cell_of_block Hmb.out 4
      simp only [List.getElem?_toArray, List.getElem?_cons_succ, List.getElem?_cons_zero] at m0' m1 m2 m3 m4
      clear hq
      rcases Bool.eq_false_or_eq_true (chas g.2.1 g.2.2 (nx, ny)) with hs | hs
      case' inl =>
        rw [if_pos hs] at Hpp
        have Hc := hid (rput_seen _ _ _ g ((nx, ny), [113], qb, cc) wb HPb.out.x.r Hmay.out hs)
        unfold BagT mv at Hc
        dsimp only at Hc
        go_wp2_with fail
        refine Hc.out.mono ?_
        rintro e w2 ⟨v0, v1, v2, rfl, hr2, hp2, hf2⟩
        obtain ⟨q0, j0, rfl⟩ : ∃ a c, v0 = .slice a 0 c := hr2.1.shape
        obtain ⟨q1, j1, rfl⟩ : ∃ a c, v1 = .slice a 0 c := hr2.2.1.shape
        obtain ⟨q2, j2, rfl⟩ : ∃ a c, v2 = .slice a 0 c := hr2.2.2.shape
        obtain ⟨w3, hw3⟩ : ∃ w3, w3 = w2.alloc (.cells #[.slice q0 0 j0, .slice q1 0 j1, .slice q2 0 j2] 31) := ⟨_, rfl⟩
        have hp3 : Pure w2 w3 := by rw [hw3]; exact (Below.refl _ _).alloc (Nat.le_refl _) _
        have HQ := hid (HPb.out.pure (hp2.then_ hp3))
        have HmQ := hid (((hp2.then_ hp3).block _ (lt_of_block Hmb.out)).trans Hmb.out)
        rw [← Hpp.out] at HQ
        clear c0 c1 c2 m0' m1 m2 m3 m4 hr2 hp2 hf2 hp3 Hc
        go_upto_region 14 with fail
        rw [← hw3]
        clear hw3
      case' inr =>
        rw [if_neg (by rw [hs]; simp)] at Hpp
        have Hc := hid (rput_plan ((nx, ny), [113], qb, cc) HPb.out.x.r Hok.out (by rw [U64_len]; decide) Hmay.out hs)
        have hwz3 := Hwr.out
        have hbs := lt_of_block Hmb.out
        have Hbs := hid (show w.heap.size + 3 ≤ wb.heap.size from by have := Hsz.out; omega)
        unfold BagT mv at Hc
        dsimp only at Hc
        generalize hpg : bput g ((nx, ny), [113], qb, cc) = pg at *
        clear hwz3 hbs hpg
        go_wp2_with fail
        refine Hc.out.mono ?_
        rintro e w2 ⟨v0, v1, v2, rfl, hr2, hp2, hf2⟩
        obtain ⟨q0, j0, rfl⟩ := hr2.1.shape
        obtain ⟨q1, j1, rfl⟩ := hr2.2.1.shape
        obtain ⟨q2, j2, rfl⟩ := hr2.2.2.shape
        have hp3 : Pure w2 (w2.alloc (.cells #[.slice q0 pg.1.length j0, .slice q1 pg.2.1.length j1, .slice q2 pg.2.2.length j2] 31)) := (Below.refl _ _).alloc (Nat.le_refl _) _
        have hPw2 := HPb.out.pure (hp2.then_ hp3)
        obtain ⟨w3, hw3⟩ : ∃ w3, w3 = (((w2.alloc (.cells #[.slice q0 pg.1.length j0, .slice q1 pg.2.1.length j1, .slice q2 pg.2.2.length j2] 31)).setCell ⟨w.heap.size + 1 + 1, 0, none⟩ (.slice q0 pg.1.length j0)).setCell ⟨w.heap.size + 1 + 1, 1, none⟩ (.slice q1 pg.2.1.length j1)).setCell ⟨w.heap.size + 1 + 1, 2, none⟩ (.slice q2 pg.2.2.length j2) := ⟨_, rfl⟩
        have HQ := hid (hPw2.set (hr2.pure hp3) (hf2.mono Hbs.out))
        have HmQ := hid (((kept3 _ (w.heap.size + 2) (.slice q0 pg.1.length j0) (.slice q1 pg.2.1.length j1) (.slice q2 pg.2.2.length j2)).block wr.heap.size (by have := ((hp2.then_ hp3).size); have := lt_of_block Hmb.out; omega) (by have := Hwr.out; have := Hsz.out; omega)).trans (((hp2.then_ hp3).block _ (lt_of_block Hmb.out)).trans Hmb.out))
        obtain ⟨o0, o1, o2, o3, o4, o5⟩ := hPw2.cells
        rw [← hw3] at HQ
        rw [show w.heap.size + 2 = w.heap.size + 1 + 1 from rfl, ← hw3] at HmQ
        rw [← Hpp.out] at HQ
        clear c0 c1 c2 m0' m1 m2 m3 m4 hr2 hp2 hf2 hp3 Hc hPw2
        go_upto_region 14 with fail
        rw [← hw3]
        clear hw3 o0 o1 o2 o3 o4 o5
      all_goals
        obtain ⟨t0, t1, t2, HT⟩ : ∃ t0 t1 t2, Hid (PlW w.heap.size wz t0 t1 t2 (pput g ((nx, ny), [113], qb, cc)) w3) := ⟨_, _, _, HQ⟩
        clear HQ HPb Hmb hs Hpp
        generalize hpp : pput g ((nx, ny), [113], qb, cc) = pg2 at *
        clear hpp
        obtain ⟨h0, h1, -, hGq, -⟩ := HF.out w3 HT.out.k
        by_cases hkg : k < lg
        · obtain ⟨bg, og, rfl, hbg, hgc⟩ := hGq.cell k hkg
          have hkg' : (k : Int) < (lg : Int) := by omega
          clear hGq hbg
          cases hgd : G.getD k false with
          | true =>
            rw [hgd] at hgc Hs Hps
            rw [if_pos rfl] at Hps
            obtain ⟨o0, o1, o2, -, -, -⟩ := HT.out.cells
            have m0' := cell_of_block HmQ.out 0
            have m1 := cell_of_block HmQ.out 1
            simp only [List.getElem?_toArray, List.getElem?_cons_succ, List.getElem?_cons_zero] at m0' m1
            have Hc := hid (rremove_plan (nx, ny) HT.out.x.r Hok2.out (by rw [U64_len]; decide) Hchk.out)
            have hks := HT.out.k.size
            have Hbs := hid (show w.heap.size + 3 ≤ w3.heap.size from by have := Hsz.out; omega)
            obtain ⟨y0', k0', rfl⟩ := HT.out.x.r.1.shape
            obtain ⟨y1', k1', rfl⟩ := HT.out.x.r.2.1.shape
            obtain ⟨y2', k2', rfl⟩ := HT.out.x.r.2.2.shape
            unfold BagT dv at Hc
            dsimp only at Hc
            generalize hbr : bremove pg2 (nx, ny) = rg at *
            clear hbr hks
            go_wp2_with fail
            refine Hc.out.mono ?_
            rintro e w4 ⟨v0, v1, v2, rfl, hr4, hp4, hf4⟩
            obtain ⟨q0, j0, rfl⟩ := hr4.1.shape
            obtain ⟨q1, j1, rfl⟩ := hr4.2.1.shape
            obtain ⟨q2, j2, rfl⟩ := hr4.2.2.shape
            have hPw4 := HT.out.pure hp4
            have HR := hid (hPw4.set hr4 (hf4.mono Hbs.out))
            clear o0 o1 o2 m0' m1 h0 h1 hgc
            obtain ⟨o0, o1, o2, o3, o4, o5⟩ := hPw4.cells
            clear hr4 hp4 hf4 hPw4 Hc
            go_wp2
            go_roundw
            (case rel => exact ⟨k + 1, _, _, _, by omega, by omega, by go_num, by rw [Hs.out, Hps.out]; exact HR.out⟩)
            (case measure => simp [RowKit.intOf]; omega)
          | false =>
            rw [hgd] at hgc Hs Hps
            rw [if_neg (by simp)] at Hps
            go_wp2
            go_roundw
            (case rel => exact ⟨k + 1, _, _, _, by omega, by omega, by go_num, by rw [Hs.out, Hps.out]; exact HT.out⟩)
            (case measure => simp [RowKit.intOf]; omega)
        · have hkg' : ¬ (k : Int) < (lg : Int) := by omega
          have hgd : G.getD k false = false := by
            have := Hgl.out
            simp [List.getD, show G.length ≤ k by omega]
          rw [hgd] at Hs Hps
          rw [if_neg (by simp)] at Hps
          clear hGq
          go_wp2
          go_roundw
          (case rel => exact ⟨k + 1, _, _, _, by omega, by omega, by go_num, by rw [Hs.out, Hps.out]; exact HT.out⟩)
          (case measure => simp [RowKit.intOf]; omega)
    · obtain ⟨c0, c1, c2, -, -, -⟩ := hP.cells
      have hmin : min M.length 12 = k := by omega
      have Hpl := hid (show planB M G = planK M G k from by unfold planB; rw [hmin])
      obtain ⟨-, -, -, -, hR⟩ := HF.out wr hP.k
      obtain ⟨r0, r1, r2, r3, r4, r5⟩ := hR.cells
      have hpw : Pure w wr := (Kept.trans (Pure.kept (S := fun k => w.heap.size ≤ k) Hpz.out) (hP.k.mono (fun k _ e => (show w.heap.size ≤ k by omega)))).below (Nat.le_refl _) (fun k hk e => by omega)
      obtain ⟨t0, t1, t2, hfin⟩ := bag_ret (w := w) hR (by omega) hpw hP.x.r (hP.f.mono (by omega))
      rw [← Hpl.out] at hfin
      have T0 := hid t0
      have T1 := hid t1
      have T2 := hid t2
      have Hfin := hid hfin
      obtain ⟨q0, j0, rfl⟩ := hP.x.r.1.shape
      obtain ⟨q1, j1, rfl⟩ := hP.x.r.2.1.shape
      obtain ⟨q2, j2, rfl⟩ := hP.x.r.2.2.shape
      clear t0 t1 t2 hfin hpw hP hR hM hG
      have hcase : ¬ (k : Int) < (M.length : Int) ∨ ((k : Int) < (M.length : Int) ∧ ¬ (k : Int) < 12) := by omega
      rcases hcase with hc1 | ⟨hc1, hc2⟩
      all_goals
        go_wp2
        exact bodyPost_ret (v := .agg #[.slice q0 (planK M G k).1.length j0, .slice q1 (planK M G k).2.1.length j1, .slice q2 (planK M G k).2.2.length j2]) (by simp [results, Tryz.results10, go_sem, T0.out, T1.out, T2.out]) rfl Hfin.out
end Go.Proofs.YtcjggofcmjpfnaaGreat

namespace Go.Proofs.YtcjggofcmjpfnaaGreat
open Go.RowKit Go.Maps Go.Shelf Go.Sort

/-- A plan, as a value. -/
structure PlanV (w : World) (v0 v1 : Value) (M : List Msg) (G : List Bool) : Prop where
  m : Msgs w v0 M
  g : ∃ a n c, v1 = .slice a n c ∧ BoolsAt w a n c G
theorem PlanV.pure {w w' : World} {v0 v1 : Value} {M : List Msg} {G : List Bool} (h : PlanV w v0 v1 M G) (hp : Pure w w') : PlanV w' v0 v1 M G := by
  obtain ⟨a, n, c, e, hg⟩ := h.g
  exact ⟨Row.pure h.m hp, a, n, c, e, hg.pure hp⟩
theorem planG {w : World} {v0 v1 : Value} {M : List Msg} {G : List Bool} (h : PlanV w v0 v1 M G) : Calls Tryz.prog 10 #[.agg #[v0, v1]] w (BagO w (planB M G)) := by
  obtain ⟨a, n, c, rfl, hg⟩ := h.g
  exact plan_any v0 M a n c G w h.m hg
theorem pbox2 (w : World) (a0 a1 b0 b1 : Value) : ∃ wz, wz = (w.alloc (.cells #[a0, a1] 25)).alloc (.cells #[b0, b1] 25) ∧ Hid (Pure w wz) ∧ Hid (∀ W, Pure wz W → (W.cell? ⟨w.heap.size, 0, none⟩ = some a0 ∧ W.cell? ⟨w.heap.size, 1, none⟩ = some a1 ∧ W.cell? ⟨w.heap.size + 1, 0, none⟩ = some b0 ∧ W.cell? ⟨w.heap.size + 1, 1, none⟩ = some b1 ∧ Pure wz W)) := by
  refine ⟨_, rfl, ((Below.refl _ _).alloc (Nat.le_refl _) _).alloc (by simp) _, fun W hW => ?_⟩
  have n1 := block_alloc_new (w.alloc (.cells #[a0, a1] 25)) (.cells #[b0, b1] 25)
  have n0 := block_alloc_old (block_alloc_new w (.cells #[a0, a1] 25)) (.cells #[b0, b1] 25)
  rw [World.size_alloc] at n1
  have e0 := (hW.block _ (lt_of_block n0)).trans n0
  have e1 := (hW.block _ (lt_of_block n1)).trans n1
  exact ⟨cell_of_block e0 0, cell_of_block e0 1, cell_of_block e1 0, cell_of_block e1 1, hW⟩

set_option maxRecDepth 8000 in
set_option maxHeartbeats 4000000 in
theorem differs_walk (a0 a1 b0 b1 : Value) (M K : List Msg) (G H : List Bool) (one : Bool) (w : World) (hp : PlanV w a0 a1 M G) (hq : PlanV w b0 b1 K H) :
    Calls Tryz.prog 3 #[.agg #[a0, a1], .agg #[b0, b1], .bool one] w fun e w' => e = .returned (.bool true) ∧ Pure w w' := by
  obtain ⟨wz, hwz, Hpz, hS⟩ := pbox2 w a0 a1 b0 b1
  have HA := hid (fun W (hW : Pure wz W) => planG (hp.pure (Hpz.out.then_ hW)))
  have HB := hid (fun W (hW : Pure wz W) => planG (hq.pure (Hpz.out.then_ hW)))
  have okA := hid (planB_ok M G)
  have okB := hid (planB_ok K H)
  unfold BagO at HA HB
  generalize planB M G = gA at *
  generalize planB K H = gB at *
  clear hp hq
  go_enter Tryz.func3, Tryz.ntmps3
  go_wp2_with fail
  rw [← hwz]
  clear hwz
  refine (awake_any wz).mono ?_
  rintro e w1 ⟨rfl, hp1⟩
  have H1 := hid hp1
  obtain ⟨f0, f1, f2, f3, _⟩ := hS.out w1 hp1
  clear hp1
  go_wp2_with fail
  refine (HA.out w1 H1.out).mono ?_
  rintro e w2 ⟨x0, x1, x2, rfl, hr2, hp2, hf2⟩
  obtain ⟨y0, k0, rfl⟩ := hr2.1.shape
  obtain ⟨y1, k1, rfl⟩ := hr2.2.1.shape
  obtain ⟨y2, k2, rfl⟩ := hr2.2.2.shape
  have hXa := BX.made hr2
  obtain ⟨w3, hw3⟩ : ∃ w3, w3 = w2.alloc (.cells #[.slice y0 gA.1.length k0, .slice y1 gA.2.1.length k1, .slice y2 gA.2.2.length k2] 31) := ⟨_, rfl⟩
  rw [← hw3] at hXa
  have hp3 : Pure w2 w3 := by rw [hw3]; exact (Below.refl _ _).alloc (Nat.le_refl _) _
  have Hs3 := hid (show w3.heap.size = w2.heap.size + 1 from by rw [hw3]; simp)
  have H3 := hid (H1.out.then_ (hp2.then_ hp3))
  have HXa := hid hXa
  have HaLt := hid hXa.r.lt
  clear f0 f1 f2 f3
  obtain ⟨f0, f1, f2, f3, _⟩ := hS.out w3 H3.out
  rw [hw3] at f0 f1 f2 f3
  clear hr2 hp2 hf2 hp3 hXa
  go_wp2_with fail
  rw [← hw3]
  clear hw3 f0 f1 f2 f3
  refine (HB.out w3 H3.out).mono ?_
  rintro e w4 ⟨x0, x1, x2, rfl, hr4, hp4, hf4⟩
  obtain ⟨z0, j0, rfl⟩ := hr4.1.shape
  obtain ⟨z1, j1, rfl⟩ := hr4.2.1.shape
  obtain ⟨z2, j2, rfl⟩ := hr4.2.2.shape
  have hXb := BX.made hr4
  obtain ⟨w5, hw5⟩ : ∃ w5, w5 = w4.alloc (.cells #[.slice z0 gB.1.length j0, .slice z1 gB.2.1.length j1, .slice z2 gB.2.2.length j2] 31) := ⟨_, rfl⟩
  rw [← hw5] at hXb
  have hp5 : Pure w4 w5 := by rw [hw5]; exact (Below.refl _ _).alloc (Nat.le_refl _) _
  have H5 := hid (H3.out.then_ (hp4.then_ hp5))
  have HXa5 := hid (HXa.out.pure (hp4.then_ hp5))
  have HXb := hid hXb
  have hs4 := hp4.size
  have Hlt := hid (show w2.heap.size < w4.heap.size from by have := Hs3.out; omega)
  have Hle := hid hs4
  have Hltw := hid (show w.heap.size ≤ w4.heap.size from by have := Hpz.out.size; have := H3.out.size; omega)
  clear hr4 hp4 hf4 hp5 hXb hs4 HXa
  generalize hna : w2.heap.size = na at *
  generalize hnb : w4.heap.size = nb at *
  go_upto_if 19 with fail
  rw [← hw5]
  clear hw5
  have hok2 : BOk U64 (if one then gA else gB) := by
    cases one
    · exact okB.out
    · exact okA.out
  generalize hgc : (if one then gA else gB) = gC at *
  go_cut [] from 19 to 71 (fun wx => ∃ b0 b1 b2, BX nb b0 b1 b2 gC wx ∧ BX na (.slice y0 gA.1.length k0) (.slice y1 gA.2.1.length k1) (.slice y2 gA.2.2.length k2) gA wx ∧ Pure w wx)
  case first =>
    cases one with
    | true =>
      simp only [if_true] at hgc
      subst hgc
      obtain ⟨c0, c1, c2⟩ := HXa5.out.cells
      have s0 := cell_of_block HXb.out.b 0
      have s1 := cell_of_block HXb.out.b 1
      have s2 := cell_of_block HXb.out.b 2
      have s3 := free_of_block HXb.out.b 0
      have s4 := free_of_block HXb.out.b 1
      have s5 := free_of_block HXb.out.b 2
      simp only [List.getElem?_toArray, List.getElem?_cons_succ, List.getElem?_cons_zero] at s0 s1 s2
      have HE := hid (show BX nb (.slice y0 gA.1.length k0) (.slice y1 gA.2.1.length k1) (.slice y2 gA.2.2.length k2) gA (((w5.setCell ⟨nb, 0, none⟩ (.slice y0 gA.1.length k0)).setCell ⟨nb, 1, none⟩ (.slice y1 gA.2.1.length k1)).setCell ⟨nb, 2, none⟩ (.slice y2 gA.2.2.length k2)) ∧ BX na (.slice y0 gA.1.length k0) (.slice y1 gA.2.1.length k1) (.slice y2 gA.2.2.length k2) gA (((w5.setCell ⟨nb, 0, none⟩ (.slice y0 gA.1.length k0)).setCell ⟨nb, 1, none⟩ (.slice y1 gA.2.1.length k1)).setCell ⟨nb, 2, none⟩ (.slice y2 gA.2.2.length k2)) ∧ Pure w (((w5.setCell ⟨nb, 0, none⟩ (.slice y0 gA.1.length k0)).setCell ⟨nb, 1, none⟩ (.slice y1 gA.2.1.length k1)).setCell ⟨nb, 2, none⟩ (.slice y2 gA.2.2.length k2)) from by
        have hk := kept3 w5 nb (.slice y0 gA.1.length k0) (.slice y1 gA.2.1.length k1) (.slice y2 gA.2.2.length k2)
        have hl := HaLt.out
        have hle := Hle.out
        have hr := HXa5.out.r.kept hk (fun k hk e => by have := hl.1 k hk; omega) (fun k hk e => by have := hl.2.1 k hk; omega) (fun k hk e => by have := hl.2.2 k hk; omega)
        refine ⟨⟨set3 HXb.out.b _ _ _, hr⟩, ⟨(hk.block _ (lt_of_block HXa5.out.b) (by have := Hlt.out; omega)).trans HXa5.out.b, hr⟩, ?_⟩
        exact (Kept.trans (Pure.kept (S := fun k => w.heap.size ≤ k) (Hpz.out.then_ H5.out)) (hk.mono (fun k _ e => (show w.heap.size ≤ k by have := Hltw.out; omega)))).below (Nat.le_refl _) (fun k hk e => by omega))
      go_wp2
      go_meet
      case rel => exact ⟨_, _, _, HE.out.1, HE.out.2.1, HE.out.2.2⟩
    | false =>
      simp only [Bool.false_eq_true, if_false] at hgc
      subst hgc
      go_wp2
      go_meet
      case rel => exact ⟨_, _, _, HXb.out, HXa5.out, Hpz.out.then_ H5.out⟩
  case rest =>
  obtain ⟨b0, b1, b2, hXc, hXa', hpw⟩ := hcut
  obtain ⟨z0, j0, rfl⟩ := hXc.r.1.shape
  obtain ⟨z1, j1, rfl⟩ := hXc.r.2.1.shape
  obtain ⟨z2, j2, rfl⟩ := hXc.r.2.2.shape
  have Hpw := hid hpw
  have XC := hid (fun W (hW : Pure wc W) => hXc.pure hW)
  have XA := hid (fun W (hW : Pure wc W) => hXa'.pure hW)
  have hS2 : Hid (∀ W, Pure wc W → (W.cell? ⟨na, 0, none⟩ = some (.slice y0 gA.1.length k0) ∧ W.cell? ⟨na, 1, none⟩ = some (.slice y1 gA.2.1.length k1) ∧ W.cell? ⟨na, 2, none⟩ = some (.slice y2 gA.2.2.length k2) ∧ W.cell? ⟨nb, 0, none⟩ = some (.slice z0 gC.1.length j0) ∧ W.cell? ⟨nb, 1, none⟩ = some (.slice z1 gC.2.1.length j1) ∧ W.cell? ⟨nb, 2, none⟩ = some (.slice z2 gC.2.2.length j2))) := fun W hW => by
    obtain ⟨e0, e1, e2⟩ := (XA.out W hW).cells
    obtain ⟨e3, e4, e5⟩ := (XC.out W hW).cells
    exact ⟨e0, e1, e2, e3, e4, e5⟩
  have okC := hid hok2
  have Hd := hid (sdiffer_any _ _ _ _ _ _ gA gC U64 wc hXa'.r hXc.r okA.out hok2 (by rw [U64_len]; decide))
  have hsm := hid (fun W (hW : Pure wc W) => rsameG (XA.out W hW).r (XC.out W hW).r)
  have hpa := hid (fun W (hW : Pure wc W) x => partG x (XA.out W hW).r okA.out (by rw [U64_len]; decide))
  have hpc := hid (fun W (hW : Pure wc W) x => partG x (XC.out W hW).r okC.out (by rw [U64_len]; decide))
  have hnil := hid (bdiffer_nil okA.out hok2)
  have hrise := hid (bdiffer_rise gA gC)
  have hmem := hid (fun x (hx : x ∈ bdiffer gA gC) => bdiffer_mem hx)
  unfold IntsO at Hd
  generalize bdiffer gA gC = N at *
  clear hXc hXa' hpw hok2 HXb HXa5 HaLt Hle Hlt Hltw H5 H3 H1 HA HB hS Hs3 okB hgc
  generalize decide (gA = gC) = D at *
  obtain ⟨c0, c1, c2, c3, c4, c5⟩ := hS2.out wc (Below.refl _ _)
  go_wp2_with fail
  refine Hd.out.mono ?_
  rintro e wd ⟨vd, rfl, hown, hpd⟩
  obtain ⟨ad, cd, rfl⟩ := own_shape_d hown
  have Hpd := hid hpd
  have HN := hid (show Ints wd (.slice ad N.length cd) N from Row.of_own hown)
  have hNl : N.length ≤ maxLen := Row.len_le HN.out
  unfold maxLen at hNl
  clear hown hpd c0 c1 c2 c3 c4 c5 Hd
  obtain ⟨c0, c1, c2, c3, c4, c5⟩ := hS2.out wd Hpd.out
  go_wp2_with fail
  refine (hsm.out wd Hpd.out).mono ?_
  rintro e we ⟨rfl, hpe⟩
  have Hpe := hid (Hpd.out.then_ hpe)
  have HNe := hid (Row.pure HN.out hpe : Ints we _ N)
  clear hpe c0 c1 c2 c3 c4 c5 HN hsm
  go_wp2
  go_loopw [12] (fun i wr => ∃ k : Nat, k ≤ N.length ∧ i = .int .i64 k ∧ Pure we wr) (fun i _ => N.length - (RowKit.intOf i).toNat)
  case atStart => exact ⟨0, Nat.zero_le _, rfl, Below.refl _ _⟩
  case round =>
    obtain ⟨k, hk, rfl, hp⟩ := hrel
    by_cases hlt : k < N.length
    · have hlt' : (k : Int) < (N.length : Int) := by omega
      obtain ⟨bn, on, rfl, hbn, hx⟩ := ints_get_j (Row.pure HNe.out hp : Ints wr _ N) hlt
      have hne := hid (hmem.out (N.getD k 0) (by simp [List.getD, hlt]))
      have hlt2 := hid (fun m (hm : k = m + 1) => (show N.getD m 0 < N.getD k 0 ∧ wr.cell? ⟨bn, on + m, none⟩ = some (.int .i64 (N.getD m 0)) from by
        subst hm
        refine ⟨?_, ?_⟩
        · have := List.pairwise_iff_getElem.1 hrise.out m (m + 1) (by omega) hlt (by omega)
          simpa [List.getD, hlt, show m < N.length by omega] using this
        · obtain ⟨b', o', e, _, h⟩ := ints_get_j (Row.pure HNe.out hp : Ints wr _ N) (show m < N.length by omega)
          cases e; exact h))
      generalize hxe : N.getD k 0 = x at *
      have Hx := hid hx
      have Hbn := hid hbn
      have Hp := hid hp
      have Hpc := hid (Hpe.out.then_ hp)
      have hSx : Hid (∀ W, Pure wr W → (W.cell? ⟨na, 0, none⟩ = some (.slice y0 gA.1.length k0) ∧ W.cell? ⟨na, 1, none⟩ = some (.slice y1 gA.2.1.length k1) ∧ W.cell? ⟨na, 2, none⟩ = some (.slice y2 gA.2.2.length k2) ∧ W.cell? ⟨nb, 0, none⟩ = some (.slice z0 gC.1.length j0) ∧ W.cell? ⟨nb, 1, none⟩ = some (.slice z1 gC.2.1.length j1) ∧ W.cell? ⟨nb, 2, none⟩ = some (.slice z2 gC.2.2.length j2) ∧ W.cell? ⟨bn, on + k, none⟩ = some (.int .i64 x) ∧ Pure wr W)) := fun W hW => by
        obtain ⟨e0, e1, e2, e3, e4, e5⟩ := hS2.out W (Hpc.out.then_ hW)
        exact ⟨e0, e1, e2, e3, e4, e5, (hW.cell (p := ⟨bn, on + k, none⟩) Hbn.out).trans Hx.out, hW⟩
      have hSy : Hid (∀ W : World, (W.cell? ⟨na, 0, none⟩ = some (.slice y0 gA.1.length k0) ∧ W.cell? ⟨na, 1, none⟩ = some (.slice y1 gA.2.1.length k1) ∧ W.cell? ⟨na, 2, none⟩ = some (.slice y2 gA.2.2.length k2) ∧ W.cell? ⟨nb, 0, none⟩ = some (.slice z0 gC.1.length j0) ∧ W.cell? ⟨nb, 1, none⟩ = some (.slice z1 gC.2.1.length j1) ∧ W.cell? ⟨nb, 2, none⟩ = some (.slice z2 gC.2.2.length j2) ∧ W.cell? ⟨bn, on + k, none⟩ = some (.int .i64 x) ∧ Pure wr W) → Pure wr W) := fun W h => h.2.2.2.2.2.2.2
      have hst := hid (hSx.out wr.drew (Below.refl _ _).drew)
      have qa := hid (fun W (hW : Pure wr W) => hpa.out W (Hpc.out.then_ hW) x)
      have qc := hid (fun W (hW : Pure wr W) => hpc.out W (Hpc.out.then_ hW) x)
      have qs := hid (fun W s0 s1 s2 t0 t1 t2 (ha : BR3 s0 s1 s2 (bpart gA x) W) (hb : BR3 t0 t1 t2 (bpart gC x) W) => (show Calls _ _ _ _ _ from by have := rsameG ha hb; rw [decide_eq_false hne.out] at this; exact this))
      unfold BagO at qa qc
      generalize bpart gA x = Ga at *
      generalize bpart gC x = Gc at *
      clear hne hp hx hbn
      go_wp2_with fail
      go_region_held3 (fun W => W.cell? ⟨na, 0, none⟩ = some (.slice y0 gA.1.length k0) ∧ W.cell? ⟨na, 1, none⟩ = some (.slice y1 gA.2.1.length k1) ∧ W.cell? ⟨na, 2, none⟩ = some (.slice y2 gA.2.2.length k2) ∧ W.cell? ⟨nb, 0, none⟩ = some (.slice z0 gC.1.length j0) ∧ W.cell? ⟨nb, 1, none⟩ = some (.slice z1 gC.2.1.length j1) ∧ W.cell? ⟨nb, 2, none⟩ = some (.slice z2 gC.2.2.length j2) ∧ W.cell? ⟨bn, on + k, none⟩ = some (.int .i64 x) ∧ Pure wr W)
        (first | with_reducible exact hst.out | with_reducible exact hSx.out _ (Pure.then_ (hSy.out _ (by assumption)) (by assumption)))
        ((first
          | (go_at_call 13; (with_reducible refine (qa.out _ (hSy.out _ (by assumption))).mono ?_); rintro e w7 ⟨s0, s1, s2, rfl, h7, hp7, _⟩)
          | (go_at_call 13; (with_reducible refine (qc.out _ (hSy.out _ (by assumption))).mono ?_); rintro e w8 ⟨t0, t1, t2, rfl, h8, hp8, _⟩)
          | (go_at_call 12; (first | (refine (qs.out _ _ _ _ _ _ _ (h7.pure hp8) h8).mono ?_) | (refine (qs.out _ _ _ _ _ _ _ h7 (h8.pure hp7)).mono ?_)); rintro e w9 ⟨rfl, hp9⟩)))
      have H9 := hid (hSy.out w9 (by assumption))
      have hx9 := (H9.out.cell (p := ⟨bn, on + k, none⟩) Hbn.out).trans Hx.out
      clear h7 hp7 h8 hp8 hp9 hst hSx hSy qa qc qs
      cases k with
      | zero =>
        have h00 : ¬ (((0 : Nat) : Int) > 0) := by omega
        go_wp2_with fail
        go_quiet (fail)
        go_wp2
        go_roundw
        case rel => exact ⟨1, by omega, by go_num, Hp.out.then_ (H9.out.then_ (pure_drewN _ _))⟩
        case measure => simp [RowKit.intOf]; omega
      | succ m =>
        obtain ⟨hl, hc⟩ := hlt2.out m rfl
        have hcm := (H9.out.cell (p := ⟨bn, on + m, none⟩) Hbn.out).trans hc
        generalize N.getD m 0 = y at *
        have h00 : ((m + 1 : Nat) : Int) > 0 := by omega
        have hy1 : ¬ y ≥ x := by omega
        have hw1 : wrap64 (((m + 1 : Nat) : Int) - 1) = m := by unfold wrap64; omega
        have hw2 : IntKind.i64.wrap (((m + 1 : Nat) : Int) - 1) = m := by rw [IntWalk.i64_in _ (by omega)]; omega
        have hmN : (m : Int) < (N.length : Int) := by omega
        go_wp2_with fail
        go_quiet (fail)
        go_wp2
        go_roundw
        case rel => exact ⟨m + 1 + 1, by omega, by go_num, Hp.out.then_ (H9.out.then_ (pure_drewN _ _))⟩
        case measure => simp [RowKit.intOf]; omega
    · have hlt' : ¬ (k : Int) < (N.length : Int) := by omega
      have Hp := hid (Hpw.out.then_ (Hpe.out.then_ hp))
      have hD : ((N.length : Int) == 0) = D := by rw [← hnil.out]; rw [Bool.eq_iff_iff]; simp
      have hDD : (((N.length : Int) == 0) == D) = true := by rw [hD]; simp
      clear hp
      go_wp2
      go_ret
      exact ⟨rfl, Hp.out⟩
end Go.Proofs.YtcjggofcmjpfnaaGreat

