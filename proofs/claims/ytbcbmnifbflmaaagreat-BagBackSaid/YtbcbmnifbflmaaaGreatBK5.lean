/- BagBack. -/
import Derived.Test.YtbcbmnifbflmaaaGreatBO
import Derived.Test.YtbcbmnifbflmaaaGreatMRb
namespace Go.Proofs.YtbcbmnifbflmaaaGreat
open Go.RowKit Go.Maps Go.Shelf Go.Sort

theorem BX.kept {S : Nat → Prop} {n : Nat} {v0 v1 v2 : Value} {g : Bag} {W W' : World} (h : BX n v0 v1 v2 g W) (hk : Kept S W W') (hS : ∀ k, k < W.heap.size → ¬ S k) : BX n v0 v1 v2 g W' :=
  ⟨(hk.block n (lt_of_block h.b) (hS n (lt_of_block h.b))).trans h.b, h.r.kept hk (fun k hk' => hS k (h.r.lt.1 k hk')) (fun k hk' => hS k (h.r.lt.2.1 k hk')) (fun k hk' => hS k (h.r.lt.2.2 k hk'))⟩
theorem bagB_small {g : Bag} (h : SmallG g) : (bagB g).length ≤ 1000000000 := by
  obtain ⟨h1, h2, h3, h4, h5, h6⟩ := h
  have := rowB_len g.2.1 h2 h5
  have := rowB_len g.2.2 h3 h6
  have := num_len g.1.length (by omega)
  have := flatM_len g.1 h1
  unfold bagB ctxB
  simp only [List.length_append]
  omega
theorem RdAt.lens {T : TypeId} {b : Nat} {s : RS} {w : World} (h : RdAt T b s w) : b < w.heap.size := h.lt

set_option maxRecDepth 8000 in
set_option maxHeartbeats 8000000 in
theorem back_walk (a00 a01 a02 : Value) (M0 : List Msg) (G0 : List Bool) (S0 : List Dot) (rest : List UInt8) (w : World) (h0 : PlanV5 w a00 a01 a02 M0 G0 S0) :
    Calls Tryz.prog 8 #[.agg #[a00, a01, a02], .string (bs rest)] w fun e w' => e = .returned (.bool true) ∧ Pure w w' := by
  obtain ⟨wz, hwz, Hpz, hS⟩ := pk1 w a00 a01 a02
  have HA := hid (fun W (hW : Pure wz W) => plan5G (h0.pure (Hpz.out.then_ hW)))
  have okA := hid (planB5_ok S0 M0 G0)
  unfold BagO at HA
  generalize planB5 S0 M0 G0 = gA at *
  have hsh := hid (fun W => short5_any rest 20 (by omega) W)
  have hTl := hid (show (rest.take 20).length ≤ 20 from by rw [List.length_take]; omega)
  generalize rest.take 20 = T at *
  clear h0
  go_enter Tryz.func8, Tryz.ntmps8
  go_wp2_with fail
  rw [← hwz]
  clear hwz
  refine (awake5_any wz).mono ?_
  rintro e w1 ⟨rfl, hp⟩
  have P1 := hid (show Pure wz w1 from hp)
  clear hp
  obtain ⟨hS_0, hS_1, hS_2, hS_3⟩ := (hS.out w1 P1.out)
  go_wp2_with fail
  refine (HA.out w1 P1.out).mono ?_
  rintro e wq ⟨x0, x1, x2, rfl, hr, hp, hf⟩
  have hX := BX.made hr
  obtain ⟨y10, k10, rfl⟩ := hr.1.shape
  obtain ⟨y11, k11, rfl⟩ := hr.2.1.shape
  obtain ⟨y12, k12, rfl⟩ := hr.2.2.shape
  obtain ⟨v1, hv1⟩ : ∃ W, W = wq.alloc (.cells #[.slice y10 gA.1.length k10, .slice y11 gA.2.1.length k11, .slice y12 gA.2.2.length k12] 33) := ⟨_, rfl⟩
  rw [← hv1] at hX
  clear hS_0 hS_1 hS_2 hS_3
  have P2 := hid (show Pure w1 v1 from hp.then_ (by rw [hv1]; exact (Below.refl _ _).alloc (Nat.le_refl _) _))
  have HX1 := hid (fun W (hW : Pure v1 W) => hX.pure hW)
  have hsz1 := hid (show wq.heap.size < v1.heap.size from by rw [hv1]; simp)
  have hse1 := hid (show v1.heap.size = wq.heap.size + 1 from by rw [hv1]; simp)
  clear hr hp hf hX
  generalize hn1 : wq.heap.size = na at *
  obtain ⟨hS_0, hS_1, hS_2, hS_3⟩ := (hS.out v1 (P1.out.then_ P2.out))
  obtain ⟨HX1_0, HX1_1, HX1_2⟩ := (HX1.out v1 (Below.refl _ _)).cells
  rw [hv1] at hS_0 hS_1 hS_2 hS_3 HX1_0 HX1_1 HX1_2
  go_wp2_with fail
  rw [← hv1]
  clear hS_0 hS_1 hS_2 hS_3 HX1_0 HX1_1 HX1_2
  clear hv1 hn1
  refine (hsh.out v1).mono ?_
  rintro e w2 ⟨rfl, hw2⟩
  have hw2 := hw2.symm
  subst hw2
  clear hsh HA hS
  obtain ⟨HX1_0, HX1_1, HX1_2⟩ := (HX1.out v1 (Below.refl _ _)).cells
  have hby := hid (mbbytes_any (.agg #[.slice y10 gA.1.length k10, .slice y11 gA.2.1.length k11, .slice y12 gA.2.2.length k12]) gA v1 (HX1.out v1 (Below.refl _ _)).r.at (okA.out.small (by rw [U64_len]; decide)))
  have hblen := hid (bagB_small (okA.out.small (by rw [U64_len]; decide)))
  generalize hZ : bagB gA = Z at *
  have HZ := hid hZ
  clear hZ
  have hcat := bs_append Z T
  have hns : ¬ 9223372036854775807 < (bs Z).size + (bs T).size := by rw [bs_size, bs_size]; have := hblen.out; have := hTl.out; omega
  go_wp2_with fail
  refine hby.out.mono ?_
  rintro e w2 ⟨rfl, hp⟩
  clear HX1_0 HX1_1 HX1_2
  have P3 := hid (show Pure v1 w2 from hp)
  clear hp hby
  go_wp2_with fail
  refine (mread_any (Z ++ T) w2).mono ?_
  rintro e w3 ⟨rfl, hrd, hp⟩
  have P4 := hid (show Pure w2 w3 from hp)
  have hrb := hid (show w2.heap.size < w3.heap.size from hrd.lt)
  have Hrd := hid hrd
  clear hp hrd hcat hns
  have hpz3 := hid (show Pure wz w3 from (P1.out.then_ (P2.out.then_ (P3.out.then_ P4.out))))
  have hb2 := hid (show wz.heap.size ≤ w2.heap.size from (P1.out.then_ (P2.out.then_ P3.out)).size)
  have HB2 := hid (HX1.out w2 P3.out)
  have Hbread := hid (bread_any w2.heap.size (some (Z ++ T)) w3 Hrd.out)
  rw [← HZ.out, rdBag_bytes okA.out.bv (by have := okA.out.len; rw [U64_len] at this; omega) (by have := okA.out.sml.l0; rw [U64_len] at this; omega) (by have := okA.out.sml.l1; rw [U64_len] at this; omega)] at Hbread
  unfold RdBagP at Hbread
  dsimp only at Hbread
  clear Hrd
  go_wp2_with fail
  refine Hbread.out.mono ?_
  rintro e w4 ⟨x0, x1, x2, rfl, hr4, hf4, hrd4, hk4⟩
  have HB4 := hid (show BX na (.slice y10 gA.1.length k10) (.slice y11 gA.2.1.length k11) (.slice y12 gA.2.2.length k12) gA w4 from by
    have h3 := HB2.out.pure P4.out
    have hl := HB2.out.r.lt
    have hn := lt_of_block HB2.out.b
    exact ⟨(hk4.block na (lt_of_block h3.b) (by omega)).trans h3.b, h3.r.kept hk4 (fun k hk e => by have := hl.1 k hk; omega) (fun k hk e => by have := hl.2.1 k hk; omega) (fun k hk e => by have := hl.2.2 k hk; omega)⟩)
  have hpz4 := hid (show Pure wz w4 from (Pure.kept (S := fun k => wz.heap.size ≤ k) hpz3.out |>.trans (hk4.mono (fun k _ e => (show wz.heap.size ≤ k by have := hb2.out; omega)))).below (Nat.le_refl _) (fun k hk e => by omega))
  obtain ⟨y20, k20, rfl⟩ := hr4.1.shape
  obtain ⟨y21, k21, rfl⟩ := hr4.2.1.shape
  obtain ⟨y22, k22, rfl⟩ := hr4.2.2.shape
  have HR4 := hid hrd4
  have hX := BX.made hr4
  obtain ⟨v4, hv4⟩ : ∃ W, W = w4.alloc (.cells #[.slice y20 gA.1.length k20, .slice y21 gA.2.1.length k21, .slice y22 gA.2.2.length k22] 33) := ⟨_, rfl⟩
  rw [← hv4] at hX
  have q4 := hid (show Pure w4 v4 from by rw [hv4]; exact (Below.refl _ _).alloc (Nat.le_refl _) _)
  have HX2 := hid (fun W (hW : Pure v4 W) => hX.pure hW)
  have HX1 := hid (fun W (hW : Pure v4 W) => HB4.out.pure (q4.out.then_ hW))
  have HRd := hid (fun W (hW : Pure v4 W) => HR4.out.pure (q4.out.then_ hW))
  have hpv := hid (hpz4.out.then_ q4.out)
  clear hr4 hf4 hrd4 hk4 hX HB2 HB4 HR4 q4 hpz3 hpz4 hb2 Hbread
  generalize hn4 : w4.heap.size = nc at *
  generalize w2.heap.size = rb at *
  clear P1 P2 P3 P4
  obtain ⟨HX1_0, HX1_1, HX1_2⟩ := (HX1.out v4 (Below.refl _ _)).cells
  obtain ⟨HX2_0, HX2_1, HX2_2⟩ := (HX2.out v4 (Below.refl _ _)).cells
  rw [hv4] at HX1_0 HX1_1 HX1_2 HX2_0 HX2_1 HX2_2
  go_wp2_with fail
  rw [← hv4]
  clear HX1_0 HX1_1 HX1_2 HX2_0 HX2_1 HX2_2
  clear hv4 hn4
  refine (rsameP5 (HX1.out v4 (Below.refl _ _)).r (HX2.out v4 (Below.refl _ _)).r).mono ?_
  rintro e v5 ⟨rfl, hp⟩
  have P5 := hid (show Pure v4 v5 from hp)
  clear hp
  have hless := hid (fun x y W => rless_any x y W)
  unfold dv at hless
  have hlA := hid (show gA.1.length ≤ 64 from by have := okA.out.len; rw [U64_len] at this; exact this)
  have hlA' := hlA.out
  have hmr := hid (fun k (hk : k < gA.1.length) => adj_of_pw (fun x y : Msg => DL x.1 y.1) m0 okA.out.r hk)
  go_wp2_with fail
  go_loopw [10, 11] (fun rs i wr => ∃ k : Nat, 1 ≤ k ∧ k ≤ 65 ∧ rs = .bool true ∧ i = .int .i64 k ∧ Pure v5 wr) (fun _ i _ => gA.1.length - (RowKit.intOf i).toNat)
  case atStart => exact ⟨1, Nat.le_refl _, by omega, rfl, rfl, Below.refl _ _⟩
  case round =>
    obtain ⟨k, hk1, hk65, rfl, rfl, hp⟩ := hrel
    have P6 := hid (show Pure v5 wr from hp)
    clear hp
    by_cases hlt : k < gA.1.length
    · have hlt' : (k : Int) < (gA.1.length : Int) := by omega
      obtain ⟨HX2_0, HX2_1, HX2_2⟩ := (HX2.out wr (P5.out.then_ P6.out)).cells
      obtain ⟨bm, om, e, hbm, z0, z1, -, -, -⟩ := Msgs.get (HX2.out wr (P5.out.then_ P6.out)).r.1 hlt
      subst e
      obtain ⟨bm', om', e, hbm', y0, y1, -, -, -⟩ := Msgs.get (HX2.out wr (P5.out.then_ P6.out)).r.1 (show k - 1 < gA.1.length by omega)
      cases e
      have hDL := hid (show dlt (gA.1.getD (k - 1) m0).1 (gA.1.getD k m0).1 = true from dlt_iff.2 ((hmr.out k hlt).resolve_left (by omega)))
      have hsub : IntKind.i64.wrap ((k : Int) - 1) = ((k - 1 : Nat) : Int) := by rw [IntWalk.i64_in _ (by omega)]; omega
      have hsub2 : (k : Int) - 1 = ((k - 1 : Nat) : Int) := by omega
      have hlt2 : ((k - 1 : Nat) : Int) < (gA.1.length : Int) := by omega
      have hn0 : (0 : Int) ≤ ((k - 1 : Nat) : Int) := by omega
      have hless2 := hid (fun W => hless.out (gA.1.getD (k - 1) m0).1 (gA.1.getD k m0).1 W)
      rw [hDL.out] at hless2
      generalize gA.1.getD (k - 1) m0 = y at *
      generalize gA.1.getD k m0 = z at *
      obtain ⟨⟨yx, yy⟩, yq, yb, yc⟩ := y
      obtain ⟨⟨zx, zy⟩, zq, zb, zc⟩ := z
      dsimp only at z0 z1 y0 y1 hless2
      generalize hj : k - 1 = j at *
      have hwm : IntKind.i64.wrap (j : Int) = (j : Int) := IntWalk.i64_in _ (by omega)
      have hS1 : Hid (∀ W, Pure wr W → (W.cell? ⟨nc, 0, none⟩ = some (.slice (some ⟨bm, om, none⟩) gA.1.length k20) ∧ W.cell? ⟨bm, om + j * 5, none⟩ = some (.int .i64 yx) ∧ W.cell? ⟨bm, om + j * 5 + 1, none⟩ = some (.int .i64 yy) ∧ W.cell? ⟨bm, om + k * 5, none⟩ = some (.int .i64 zx) ∧ W.cell? ⟨bm, om + k * 5 + 1, none⟩ = some (.int .i64 zy) ∧ Pure wr W)) := fun W hW => by
        obtain ⟨e0, -, -⟩ := (HX2.out W ((P5.out.then_ P6.out).then_ hW)).cells
        exact ⟨e0, pat hW y0, pat hW y1, pat hW z0, pat hW z1, hW⟩
      have hS2 : Hid (∀ W : World, (W.cell? ⟨nc, 0, none⟩ = some (.slice (some ⟨bm, om, none⟩) gA.1.length k20) ∧ W.cell? ⟨bm, om + j * 5, none⟩ = some (.int .i64 yx) ∧ W.cell? ⟨bm, om + j * 5 + 1, none⟩ = some (.int .i64 yy) ∧ W.cell? ⟨bm, om + k * 5, none⟩ = some (.int .i64 zx) ∧ W.cell? ⟨bm, om + k * 5 + 1, none⟩ = some (.int .i64 zy) ∧ Pure wr W) → Pure wr W) := fun W h => h.2.2.2.2.2
      have hst := hid (hS1.out wr.drew (Below.refl _ _).drew)
      clear hbm hbm' z0 z1 y0 y1
      go_wp2_with fail
      go_region_held3 (fun W => W.cell? ⟨nc, 0, none⟩ = some (.slice (some ⟨bm, om, none⟩) gA.1.length k20) ∧ W.cell? ⟨bm, om + j * 5, none⟩ = some (.int .i64 yx) ∧ W.cell? ⟨bm, om + j * 5 + 1, none⟩ = some (.int .i64 yy) ∧ W.cell? ⟨bm, om + k * 5, none⟩ = some (.int .i64 zx) ∧ W.cell? ⟨bm, om + k * 5 + 1, none⟩ = some (.int .i64 zy) ∧ Pure wr W)
        (first | with_reducible exact hst.out | with_reducible assumption | with_reducible exact hS1.out _ (Pure.then_ (hS2.out _ (by assumption)) (by assumption)))
        ((go_at_call 36; (with_reducible refine (hless2.out _).mono ?_); rintro e w7 ⟨rfl, hp7⟩))
      have hx := hid (show Pure v5 w7 from P6.out.then_ (hS2.out w7 (by assumption)))
      clear hst hS1 hS2 hp7
      go_wp2
      go_roundw
      case rel => exact ⟨k + 1, by omega, by omega, rfl, by go_num, hx.out⟩
      case measure => simp [RowKit.intOf]; omega
    · have hlt' : ¬ (k : Int) < (gA.1.length : Int) := by omega
      obtain ⟨HX2_0, HX2_1, HX2_2⟩ := (HX2.out wr (P5.out.then_ P6.out)).cells
      go_wp2_with fail
      refine (left_any rb (some T) wr (HRd.out wr (P5.out.then_ P6.out))).mono ?_
      rintro e w6 ⟨rfl, hp⟩
      clear HX2_0 HX2_1 HX2_2
      have P7 := hid (show Pure wr w6 from hp)
      clear hp
      go_wp2_with fail
      refine (fine_any rb (some T) w6 (HRd.out w6 (P5.out.then_ (P6.out.then_ P7.out)))).mono ?_
      rintro e w7 ⟨rfl, hp⟩
      have P8 := hid (show Pure w6 w7 from hp)
      clear hp
      obtain ⟨HX1_0, HX1_1, HX1_2⟩ := (HX1.out w7 (P5.out.then_ (P6.out.then_ (P7.out.then_ P8.out)))).cells
      have hck := hid (show Calls _ _ _ _ _ from by have := bcheck_any5 _ _ _ gA w7 (HX1.out w7 (P5.out.then_ (P6.out.then_ (P7.out.then_ P8.out)))).r (by omega) (by have := okA.out.sml.l0; rw [U64_len] at this; omega) (by have := okA.out.sml.l1; rw [U64_len] at this; omega); rw [bchk_iff.2 okA.out.bv] at this; exact this)
      go_wp2_with fail
      refine hck.out.mono ?_
      rintro e w8 ⟨rfl, hp⟩
      clear HX1_0 HX1_1 HX1_2
      have P9 := hid (show Pure w7 w8 from hp)
      clear hp hck
      unfold errOf
      go_wp2
      go_ret
      exact ⟨rfl, Hpz.out.then_ (hpv.out.then_ (P5.out.then_ (P6.out.then_ (P7.out.then_ (P8.out.then_ P9.out)))))⟩
end Go.Proofs.YtbcbmnifbflmaaaGreat
