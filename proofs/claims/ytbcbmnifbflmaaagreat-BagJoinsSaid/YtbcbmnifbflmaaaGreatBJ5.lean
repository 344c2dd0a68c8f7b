/- ref05.Covers; BagJoins. -/
import Derived.Test.YtbcbmnifbflmaaaGreatBO
import Derived.Test.YtbcbmnifbflmaaaGreatMRb
import Derived.Test.YtbcbmnifbflmaaaGreatMJr
namespace Go.Proofs.YtbcbmnifbflmaaaGreat
open Go.RowKit Go.Maps Go.Shelf Go.Sort

set_option maxHeartbeats 2000000 in
theorem rcovers5_any (v0 v1 v2 u0 u1 u2 : Value) (g h : Bag) (U : List Dot) (w : World) (hr : BR3 v0 v1 v2 g w) (hs : BR3 u0 u1 u2 h w) (hg : BOk U g) (hh : BOk U h) (hU : U.length ≤ 200) :
    Calls Tryz.prog 30 #[.agg #[v0, v1, v2], .agg #[u0, u1, u2]] w fun e w' => e = .returned (.bool (decide (bjoin g h = g))) ∧ Pure w w' := by
  obtain ⟨wz, hwz⟩ : ∃ wz, wz = (w.alloc (.cells #[v0, v1, v2] 33)).alloc (.cells #[u0, u1, u2] 33) := ⟨_, rfl⟩
  have Hpz := hid (show Pure w wz from by rw [hwz]; exact ((Below.refl _ _).alloc (Nat.le_refl _) _).alloc (by simp) _)
  have HA := hid (show BX w.heap.size v0 v1 v2 g wz from ⟨by rw [hwz]; exact block_alloc_old (block_alloc_new _ _) _, hr.pure Hpz.out⟩)
  have HB := hid (show BX (w.heap.size + 1) u0 u1 u2 h wz from ⟨by
    have := block_alloc_new (w.alloc (.cells #[v0, v1, v2] 33)) (.cells #[u0, u1, u2] 33)
    rw [World.size_alloc] at this
    rw [hwz]; exact this, hs.pure Hpz.out⟩)
  have hS : Hid (∀ W, Pure wz W → (W.cell? ⟨w.heap.size, 0, none⟩ = some v0 ∧ W.cell? ⟨w.heap.size, 1, none⟩ = some v1 ∧ W.cell? ⟨w.heap.size, 2, none⟩ = some v2 ∧ W.cell? ⟨w.heap.size + 1, 0, none⟩ = some u0 ∧ W.cell? ⟨w.heap.size + 1, 1, none⟩ = some u1 ∧ W.cell? ⟨w.heap.size + 1, 2, none⟩ = some u2 ∧ Pure wz W)) := fun W hW => by
    obtain ⟨e0, e1, e2⟩ := (HA.out.pure hW).cells
    obtain ⟨e3, e4, e5⟩ := (HB.out.pure hW).cells
    exact ⟨e0, e1, e2, e3, e4, e5, hW⟩
  have hS2 : Hid (∀ W : World, (W.cell? ⟨w.heap.size, 0, none⟩ = some v0 ∧ W.cell? ⟨w.heap.size, 1, none⟩ = some v1 ∧ W.cell? ⟨w.heap.size, 2, none⟩ = some v2 ∧ W.cell? ⟨w.heap.size + 1, 0, none⟩ = some u0 ∧ W.cell? ⟨w.heap.size + 1, 1, none⟩ = some u1 ∧ W.cell? ⟨w.heap.size + 1, 2, none⟩ = some u2 ∧ Pure wz W) → Pure wz W) := fun W h => h.2.2.2.2.2.2
  have hst := hid (hS.out wz.drew (Below.refl _ _).drew)
  have hjn := hid (fun W (hW : Pure wz W) => rjoin5_any _ _ _ _ _ _ g h U U W (HA.out.pure hW).r (HB.out.pure hW).r hg hh hU hU)
  have hsm := hid (fun W (hW : Pure wz W) s0 s1 s2 (hs : BR3 s0 s1 s2 (bjoin g h) W) => rbsame_any _ _ (bjoin g h) g W hs.at (HA.out.pure hW).r.at)
  unfold BagO at hjn
  generalize bjoin g h = J at *
  generalize decide (J = g) = D at *
  clear hr hs hg hh
  go_enter Tryz.func30, Tryz.ntmps30
  go_wp2_with fail
  rw [← hwz]
  clear hwz
  go_region_held3 (fun W => W.cell? ⟨w.heap.size, 0, none⟩ = some v0 ∧ W.cell? ⟨w.heap.size, 1, none⟩ = some v1 ∧ W.cell? ⟨w.heap.size, 2, none⟩ = some v2 ∧ W.cell? ⟨w.heap.size + 1, 0, none⟩ = some u0 ∧ W.cell? ⟨w.heap.size + 1, 1, none⟩ = some u1 ∧ W.cell? ⟨w.heap.size + 1, 2, none⟩ = some u2 ∧ Pure wz W)
    (first | with_reducible exact hst.out | with_reducible assumption | with_reducible exact hS.out _ (Pure.then_ (hS2.out _ (by assumption)) (by assumption)))
    ((first
      | (go_at_call 29; (with_reducible refine (hjn.out _ (hS2.out _ (by assumption))).mono ?_); rintro e w7 ⟨s0, s1, s2, rfl, h7, hp7, _⟩)
      | (go_at_call 21; (refine (hsm.out _ (hS2.out _ (by assumption)) _ _ _ h7).mono ?_); rintro e w9 ⟨rfl, hp9⟩)))
  have H9 := hid (Hpz.out.then_ (hS2.out w9 (by assumption)))
  clear h7 hp7 hp9 hst hS hS2 hjn hsm
  go_wp2
  go_ret
  exact ⟨rfl, H9.out⟩

set_option maxRecDepth 8000 in
set_option maxHeartbeats 8000000 in
theorem joins_walk (a00 a01 a02 a10 a11 a12 : Value) (M0 M1 : List Msg) (G0 G1 : List Bool) (S0 S1 : List Dot) (w : World) (h0 : PlanV5 w a00 a01 a02 M0 G0 S0) (h1 : PlanV5 w a10 a11 a12 M1 G1 S1) :
    Calls Tryz.prog 7 #[.agg #[a00, a01, a02], .agg #[a10, a11, a12]] w fun e w' => e = .returned (.bool true) ∧ Pure w w' := by
  obtain ⟨wz, hwz, Hpz, hS⟩ := pk2 w a00 a01 a02 a10 a11 a12
  have HA := hid (fun W (hW : Pure wz W) => plan5G (h0.pure (Hpz.out.then_ hW)))
  have HB := hid (fun W (hW : Pure wz W) => plan5G (h1.pure (Hpz.out.then_ hW)))
  have okA := hid (planB5_ok S0 M0 G0)
  have okB := hid (planB5_ok S1 M1 G1)
  unfold BagO at HA HB
  generalize planB5 S0 M0 G0 = gA at *
  generalize planB5 S1 M1 G1 = gB at *
  clear h0 h1
  go_enter Tryz.func7, Tryz.ntmps7
  go_wp2_with fail
  rw [← hwz]
  clear hwz
  refine (awake5_any wz).mono ?_
  rintro e w1 ⟨rfl, hp⟩
  have P1 := hid (show Pure wz w1 from hp)
  clear hp
  obtain ⟨hS_0, hS_1, hS_2, hS_3, hS_4, hS_5, hS_6⟩ := (hS.out w1 P1.out)
  go_wp2_with fail
  refine (HA.out w1 P1.out).mono ?_
  rintro e wq ⟨x0, x1, x2, rfl, hr, hp, hf⟩
  have hX := BX.made hr
  obtain ⟨y10, k10, rfl⟩ := hr.1.shape
  obtain ⟨y11, k11, rfl⟩ := hr.2.1.shape
  obtain ⟨y12, k12, rfl⟩ := hr.2.2.shape
  obtain ⟨v1, hv1⟩ : ∃ W, W = wq.alloc (.cells #[.slice y10 gA.1.length k10, .slice y11 gA.2.1.length k11, .slice y12 gA.2.2.length k12] 33) := ⟨_, rfl⟩
  rw [← hv1] at hX
  clear hS_0 hS_1 hS_2 hS_3 hS_4 hS_5 hS_6
  have P2 := hid (show Pure w1 v1 from hp.then_ (by rw [hv1]; exact (Below.refl _ _).alloc (Nat.le_refl _) _))
  have HX1 := hid (fun W (hW : Pure v1 W) => hX.pure hW)
  have hsz1 := hid (show wq.heap.size < v1.heap.size from by rw [hv1]; simp)
  have hse1 := hid (show v1.heap.size = wq.heap.size + 1 from by rw [hv1]; simp)
  clear hr hp hf hX
  generalize hn1 : wq.heap.size = na at *
  obtain ⟨hS_0, hS_1, hS_2, hS_3, hS_4, hS_5, hS_6⟩ := (hS.out v1 (P1.out.then_ P2.out))
  obtain ⟨HX1_0, HX1_1, HX1_2⟩ := (HX1.out v1 (Below.refl _ _)).cells
  rw [hv1] at hS_0 hS_1 hS_2 hS_3 hS_4 hS_5 hS_6 HX1_0 HX1_1 HX1_2
  go_wp2_with fail
  rw [← hv1]
  clear hS_0 hS_1 hS_2 hS_3 hS_4 hS_5 hS_6 HX1_0 HX1_1 HX1_2
  clear hv1 hn1
  refine (HB.out v1 (P1.out.then_ P2.out)).mono ?_
  rintro e wq ⟨x0, x1, x2, rfl, hr, hp, hf⟩
  have hX := BX.made hr
  obtain ⟨y20, k20, rfl⟩ := hr.1.shape
  obtain ⟨y21, k21, rfl⟩ := hr.2.1.shape
  obtain ⟨y22, k22, rfl⟩ := hr.2.2.shape
  obtain ⟨v2, hv2⟩ : ∃ W, W = wq.alloc (.cells #[.slice y20 gB.1.length k20, .slice y21 gB.2.1.length k21, .slice y22 gB.2.2.length k22] 33) := ⟨_, rfl⟩
  rw [← hv2] at hX
  have P3 := hid (show Pure v1 v2 from hp.then_ (by rw [hv2]; exact (Below.refl _ _).alloc (Nat.le_refl _) _))
  have HX2 := hid (fun W (hW : Pure v2 W) => hX.pure hW)
  have hsz2 := hid (show wq.heap.size < v2.heap.size from by rw [hv2]; simp)
  have hse2 := hid (show v2.heap.size = wq.heap.size + 1 from by rw [hv2]; simp)
  clear hr hp hf hX
  generalize hn2 : wq.heap.size = nb at *
  obtain ⟨hS_0, hS_1, hS_2, hS_3, hS_4, hS_5, hS_6⟩ := (hS.out v2 (P1.out.then_ (P2.out.then_ P3.out)))
  obtain ⟨HX2_0, HX2_1, HX2_2⟩ := (HX2.out v2 (Below.refl _ _)).cells
  rw [hv2] at hS_0 hS_1 hS_2 hS_3 hS_4 hS_5 hS_6 HX2_0 HX2_1 HX2_2
  clear hS_0 hS_1 hS_2 hS_3 hS_4 hS_5 hS_6 HX2_0 HX2_1 HX2_2
  obtain ⟨HX1_0, HX1_1, HX1_2⟩ := (HX1.out v2 P3.out).cells
  obtain ⟨HX2_0, HX2_1, HX2_2⟩ := (HX2.out v2 (Below.refl _ _)).cells
  rw [hv2] at HX1_0 HX1_1 HX1_2 HX2_0 HX2_1 HX2_2
  go_wp2_with fail
  rw [← hv2]
  clear HX1_0 HX1_1 HX1_2 HX2_0 HX2_1 HX2_2
  clear hv2 hn2
  generalize Value.slice y10 gA.1.length k10 = z10 at *
  generalize Value.slice y11 gA.2.1.length k11 = z11 at *
  generalize Value.slice y12 gA.2.2.length k12 = z12 at *
  generalize Value.slice y20 gB.1.length k20 = z20 at *
  generalize Value.slice y21 gB.2.1.length k21 = z21 at *
  generalize Value.slice y22 gB.2.2.length k22 = z22 at *
  clear HA HB hS
  have hg := hid (sjoinP (HX1.out v2 P3.out).r (HX2.out v2 (Below.refl _ _)).r okA.out okB.out rfl)
  have hrj := hid (fun W (hW : Pure v2 W) => rjoin5_any _ _ _ _ _ _ gA gB U64 U64 W (HX1.out W (P3.out.then_ hW)).r (HX2.out W hW).r okA.out okB.out U64_le5 U64_le5)
  unfold BagO at hg hrj
  have hc1 := hid (fun W (hW : Pure v2 W) => scovers_any _ _ _ _ _ _ gA gB U64 W (HX1.out W (P3.out.then_ hW)).r (HX2.out W hW).r okA.out okB.out U64_le5)
  have hc2 := hid (fun W (hW : Pure v2 W) => rcovers5_any _ _ _ _ _ _ gA gB U64 W (HX1.out W (P3.out.then_ hW)).r (HX2.out W hW).r okA.out okB.out U64_le5)
  have hs1 := hid (fun W (hW : Pure v2 W) => sameG (HX1.out W (P3.out.then_ hW)).r (HX2.out W hW).r)
  have hs2 := hid (fun W (hW : Pure v2 W) => rsameG (HX1.out W (P3.out.then_ hW)).r (HX2.out W hW).r)
  have hs3 := hid (fun W (hW : Pure v2 W) => (show Calls _ _ _ _ _ from by have := sameG (HX1.out W (P3.out.then_ hW)).r (HX1.out W (P3.out.then_ hW)).r; rw [decide_eq_true rfl] at this; exact this))
  have okJ := hid (okA.out.join okB.out)
  generalize bjoin gA gB = gJ at *
  generalize decide (gJ = gA) = dC at *
  generalize decide (gA = gB) = dS at *
  refine (hg.out).mono ?_
  rintro e wq ⟨x0, x1, x2, rfl, hr, hp, hf⟩
  have hX := BX.made hr
  obtain ⟨y40, k40, rfl⟩ := hr.1.shape
  obtain ⟨y41, k41, rfl⟩ := hr.2.1.shape
  obtain ⟨y42, k42, rfl⟩ := hr.2.2.shape
  obtain ⟨v4, hv4⟩ : ∃ W, W = wq.alloc (.cells #[.slice y40 gJ.1.length k40, .slice y41 gJ.2.1.length k41, .slice y42 gJ.2.2.length k42] 33) := ⟨_, rfl⟩
  rw [← hv4] at hX
  have P4 := hid (show Pure v2 v4 from hp.then_ (by rw [hv4]; exact (Below.refl _ _).alloc (Nat.le_refl _) _))
  have HX4 := hid (fun W (hW : Pure v4 W) => hX.pure hW)
  have hsz4 := hid (show wq.heap.size < v4.heap.size from by rw [hv4]; simp)
  have hse4 := hid (show v4.heap.size = wq.heap.size + 1 from by rw [hv4]; simp)
  clear hr hp hf hX
  generalize hn4 : wq.heap.size = nj at *
  obtain ⟨HX1_0, HX1_1, HX1_2⟩ := (HX1.out v4 (P3.out.then_ P4.out)).cells
  obtain ⟨HX2_0, HX2_1, HX2_2⟩ := (HX2.out v4 P4.out).cells
  obtain ⟨HX4_0, HX4_1, HX4_2⟩ := (HX4.out v4 (Below.refl _ _)).cells
  rw [hv4] at HX1_0 HX1_1 HX1_2 HX2_0 HX2_1 HX2_2 HX4_0 HX4_1 HX4_2
  go_wp2_with fail
  rw [← hv4]
  clear HX1_0 HX1_1 HX1_2 HX2_0 HX2_1 HX2_2 HX4_0 HX4_1 HX4_2
  clear hv4 hn4
  generalize Value.slice y40 gJ.1.length k40 = z40 at *
  generalize Value.slice y41 gJ.2.1.length k41 = z41 at *
  generalize Value.slice y42 gJ.2.2.length k42 = z42 at *
  clear hg
  have qs := hid (fun W (hW : Pure v4 W) s0 s1 s2 (hs : BR3 s0 s1 s2 gJ W) => rsameP5 (HX4.out W hW).r hs)
  have hS1 : Hid (∀ W, Pure v4 W → (W.cell? ⟨na, 0, none⟩ = some z10 ∧ W.cell? ⟨na, 1, none⟩ = some z11 ∧ W.cell? ⟨na, 2, none⟩ = some z12 ∧ W.cell? ⟨nb, 0, none⟩ = some z20 ∧ W.cell? ⟨nb, 1, none⟩ = some z21 ∧ W.cell? ⟨nb, 2, none⟩ = some z22 ∧ W.cell? ⟨nj, 0, none⟩ = some z40 ∧ W.cell? ⟨nj, 1, none⟩ = some z41 ∧ W.cell? ⟨nj, 2, none⟩ = some z42 ∧ Pure v4 W)) := fun W hW => by
    obtain ⟨eHX10, eHX11, eHX12⟩ := (HX1.out W ((P3.out.then_ P4.out).then_ hW)).cells
    obtain ⟨eHX20, eHX21, eHX22⟩ := (HX2.out W (P4.out.then_ hW)).cells
    obtain ⟨eHX40, eHX41, eHX42⟩ := (HX4.out W hW).cells
    exact ⟨eHX10, eHX11, eHX12, eHX20, eHX21, eHX22, eHX40, eHX41, eHX42, hW⟩
  have hS2 : Hid (∀ W : World, (W.cell? ⟨na, 0, none⟩ = some z10 ∧ W.cell? ⟨na, 1, none⟩ = some z11 ∧ W.cell? ⟨na, 2, none⟩ = some z12 ∧ W.cell? ⟨nb, 0, none⟩ = some z20 ∧ W.cell? ⟨nb, 1, none⟩ = some z21 ∧ W.cell? ⟨nb, 2, none⟩ = some z22 ∧ W.cell? ⟨nj, 0, none⟩ = some z40 ∧ W.cell? ⟨nj, 1, none⟩ = some z41 ∧ W.cell? ⟨nj, 2, none⟩ = some z42 ∧ Pure v4 W) → Pure v4 W) := fun W h => h.2.2.2.2.2.2.2.2.2
  have hst := hid (hS1.out v4.drew (Below.refl _ _).drew)
  go_wp2_with fail
  go_region_held3 (fun W => W.cell? ⟨na, 0, none⟩ = some z10 ∧ W.cell? ⟨na, 1, none⟩ = some z11 ∧ W.cell? ⟨na, 2, none⟩ = some z12 ∧ W.cell? ⟨nb, 0, none⟩ = some z20 ∧ W.cell? ⟨nb, 1, none⟩ = some z21 ∧ W.cell? ⟨nb, 2, none⟩ = some z22 ∧ W.cell? ⟨nj, 0, none⟩ = some z40 ∧ W.cell? ⟨nj, 1, none⟩ = some z41 ∧ W.cell? ⟨nj, 2, none⟩ = some z42 ∧ Pure v4 W)
    (first | with_reducible exact hst.out | with_reducible assumption | with_reducible exact hS1.out _ (Pure.then_ (hS2.out _ (by assumption)) (by assumption)))
    ((first
      | (go_at_call 29; ((refine (hrj.out _ (P4.out.then_ (hS2.out _ (by assumption)))).mono ?_)); rintro e w7 ⟨s0, s1, s2, rfl, h7, hp7, _⟩)
      | (go_at_call 21; ((refine (qs.out _ (hS2.out _ (by assumption)) _ _ _ h7).mono ?_)); rintro e w19 ⟨rfl, hp9⟩)))
  have P5 := hid (show Pure v4 w19 from hS2.out w19 (by assumption))
  clear hst hS1 hS2
  clear h7 hp7 hp9 qs hrj
  have hck := hid (fun W (hW : Pure w19 W) => (show Calls _ _ _ _ _ from by have := bcheck_any5 _ _ _ gJ W (HX4.out W (P5.out.then_ hW)).r (by have := okJ.out.len; rw [U64_len] at this; omega) (by have := okJ.out.sml.l0; rw [U64_len] at this; omega) (by have := okJ.out.sml.l1; rw [U64_len] at this; omega); rw [bchk_iff.2 okJ.out.bv] at this; exact this))
  unfold errOf at hck
  have hS1 : Hid (∀ W, Pure w19 W → (W.cell? ⟨na, 0, none⟩ = some z10 ∧ W.cell? ⟨na, 1, none⟩ = some z11 ∧ W.cell? ⟨na, 2, none⟩ = some z12 ∧ W.cell? ⟨nb, 0, none⟩ = some z20 ∧ W.cell? ⟨nb, 1, none⟩ = some z21 ∧ W.cell? ⟨nb, 2, none⟩ = some z22 ∧ W.cell? ⟨nj, 0, none⟩ = some z40 ∧ W.cell? ⟨nj, 1, none⟩ = some z41 ∧ W.cell? ⟨nj, 2, none⟩ = some z42 ∧ Pure w19 W)) := fun W hW => by
    obtain ⟨eHX10, eHX11, eHX12⟩ := (HX1.out W ((P3.out.then_ (P4.out.then_ P5.out)).then_ hW)).cells
    obtain ⟨eHX20, eHX21, eHX22⟩ := (HX2.out W ((P4.out.then_ P5.out).then_ hW)).cells
    obtain ⟨eHX40, eHX41, eHX42⟩ := (HX4.out W (P5.out.then_ hW)).cells
    exact ⟨eHX10, eHX11, eHX12, eHX20, eHX21, eHX22, eHX40, eHX41, eHX42, hW⟩
  have hS2 : Hid (∀ W : World, (W.cell? ⟨na, 0, none⟩ = some z10 ∧ W.cell? ⟨na, 1, none⟩ = some z11 ∧ W.cell? ⟨na, 2, none⟩ = some z12 ∧ W.cell? ⟨nb, 0, none⟩ = some z20 ∧ W.cell? ⟨nb, 1, none⟩ = some z21 ∧ W.cell? ⟨nb, 2, none⟩ = some z22 ∧ W.cell? ⟨nj, 0, none⟩ = some z40 ∧ W.cell? ⟨nj, 1, none⟩ = some z41 ∧ W.cell? ⟨nj, 2, none⟩ = some z42 ∧ Pure w19 W) → Pure w19 W) := fun W h => h.2.2.2.2.2.2.2.2.2
  have hst := hid (hS1.out w19.drew (Below.refl _ _).drew)
  go_wp2_with fail
  go_region_held3 (fun W => W.cell? ⟨na, 0, none⟩ = some z10 ∧ W.cell? ⟨na, 1, none⟩ = some z11 ∧ W.cell? ⟨na, 2, none⟩ = some z12 ∧ W.cell? ⟨nb, 0, none⟩ = some z20 ∧ W.cell? ⟨nb, 1, none⟩ = some z21 ∧ W.cell? ⟨nb, 2, none⟩ = some z22 ∧ W.cell? ⟨nj, 0, none⟩ = some z40 ∧ W.cell? ⟨nj, 1, none⟩ = some z41 ∧ W.cell? ⟨nj, 2, none⟩ = some z42 ∧ Pure w19 W)
    (first | with_reducible exact hst.out | with_reducible assumption | with_reducible exact hS1.out _ (Pure.then_ (hS2.out _ (by assumption)) (by assumption)))
    ((first
      | (go_at_call 28; ((refine (hc1.out _ ((P4.out.then_ P5.out).then_ (hS2.out _ (by assumption)))).mono ?_)); rintro e w31 ⟨rfl, hp31⟩)
      | (go_at_call 30; ((refine (hc2.out _ ((P4.out.then_ P5.out).then_ (hS2.out _ (by assumption)))).mono ?_)); rintro e w32 ⟨rfl, hp32⟩)
      | ((go_at_call 31; first | (with_reducible refine (hs1.out _ ((P4.out.then_ P5.out).then_ (hS2.out _ (by assumption)))).mono ?_) | (with_reducible refine (hs3.out _ ((P4.out.then_ P5.out).then_ (hS2.out _ (by assumption)))).mono ?_)); rintro e w33 ⟨rfl, hp33⟩)
      | (go_at_call 21; ((refine (hs2.out _ ((P4.out.then_ P5.out).then_ (hS2.out _ (by assumption)))).mono ?_)); rintro e w34 ⟨rfl, hp34⟩)
      | (go_at_call 32; ((refine (hck.out _ (hS2.out _ (by assumption))).mono ?_)); rintro e w35 ⟨rfl, hp35⟩)))
  have P6 := hid (show Pure w19 w33 from hS2.out w33 (by assumption))
  clear hst hS1 hS2
  go_wp2
  go_ret
  exact ⟨rfl, Hpz.out.then_ (P1.out.then_ (P2.out.then_ (P3.out.then_ (P4.out.then_ (P5.out.then_ P6.out)))))⟩
end Go.Proofs.YtbcbmnifbflmaaaGreat
