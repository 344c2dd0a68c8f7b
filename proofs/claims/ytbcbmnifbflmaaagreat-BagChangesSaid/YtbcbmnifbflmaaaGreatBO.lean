/- BagOrder. -/
import Derived.Test.YtbcbmnifbflmaaaGreatPO5
import Derived.Test.YtbcbmnifbflmaaaGreatMBg
namespace Go.Proofs.YtbcbmnifbflmaaaGreat
open Go.RowKit Go.Maps Go.Shelf Go.Sort

theorem sjoinP {v0 v1 v2 u0 u1 u2 : Value} {g h k : Bag} {w : World} (hr : BR3 v0 v1 v2 g w) (hs : BR3 u0 u1 u2 h w) (hg : BOk U64 g) (hh : BOk U64 h) (e : bjoin g h = k) :
    Calls Tryz.prog 13 #[.agg #[v0, v1, v2], .agg #[u0, u1, u2]] w (BagO w k) := by
  subst e
  exact sjoin_any v0 v1 v2 u0 u1 u2 g h U64 U64 w hr hs hg hh U64_le5 U64_le5
theorem scoversP {v0 v1 v2 u0 u1 u2 : Value} {g h : Bag} {w : World} (hr : BR3 v0 v1 v2 g w) (hs : BR3 u0 u1 u2 h w) (hg : BOk U64 g) (hh : BOk U64 h) (e : bjoin g h = g) :
    Calls Tryz.prog 28 #[.agg #[v0, v1, v2], .agg #[u0, u1, u2]] w fun e w' => e = .returned (.bool true) ∧ Pure w w' := by
  have := scovers_any v0 v1 v2 u0 u1 u2 g h U64 w hr hs hg hh U64_le5
  rw [decide_eq_true e] at this
  exact this
theorem rsameP5 {v0 v1 v2 u0 u1 u2 : Value} {g : Bag} {W : World} (hr : BR3 v0 v1 v2 g W) (hs : BR3 u0 u1 u2 g W) : Calls Tryz.prog 21 #[.agg #[v0, v1, v2], .agg #[u0, u1, u2]] W fun e w' => e = .returned (.bool true) ∧ Pure W w' := by
  have := rsameG hr hs
  rw [decide_eq_true rfl] at this
  exact this

set_option maxRecDepth 8000 in
set_option maxHeartbeats 8000000 in
theorem order_walk (a00 a01 a02 a10 a11 a12 a20 a21 a22 : Value) (M0 M1 M2 : List Msg) (G0 G1 G2 : List Bool) (S0 S1 S2 : List Dot) (w : World) (h0 : PlanV5 w a00 a01 a02 M0 G0 S0) (h1 : PlanV5 w a10 a11 a12 M1 G1 S1) (h2 : PlanV5 w a20 a21 a22 M2 G2 S2) :
    Calls Tryz.prog 5 #[.agg #[a00, a01, a02], .agg #[a10, a11, a12], .agg #[a20, a21, a22]] w fun e w' => e = .returned (.bool true) ∧ Pure w w' := by
  obtain ⟨wz, hwz, Hpz, hS⟩ := pk3 w a00 a01 a02 a10 a11 a12 a20 a21 a22
  have HA := hid (fun W (hW : Pure wz W) => plan5G (h0.pure (Hpz.out.then_ hW)))
  have HB := hid (fun W (hW : Pure wz W) => plan5G (h1.pure (Hpz.out.then_ hW)))
  have HC := hid (fun W (hW : Pure wz W) => plan5G (h2.pure (Hpz.out.then_ hW)))
  have okA := hid (planB5_ok S0 M0 G0)
  have okB := hid (planB5_ok S1 M1 G1)
  have okC := hid (planB5_ok S2 M2 G2)
  unfold BagO at HA HB HC
  generalize planB5 S0 M0 G0 = gA at *
  generalize planB5 S1 M1 G1 = gB at *
  generalize planB5 S2 M2 G2 = gC at *
  clear h0 h1 h2
  go_enter Tryz.func5, Tryz.ntmps5
  go_wp2_with fail
  rw [← hwz]
  clear hwz
  refine (awake5_any wz).mono ?_
  rintro e w1 ⟨rfl, hp⟩
  have P1 := hid (show Pure wz w1 from hp)
  clear hp
  obtain ⟨hS_0, hS_1, hS_2, hS_3, hS_4, hS_5, hS_6, hS_7, hS_8, hS_9⟩ := (hS.out w1 P1.out)
  go_wp2_with fail
  refine (HA.out w1 P1.out).mono ?_
  rintro e wq ⟨x0, x1, x2, rfl, hr, hp, hf⟩
  have hX := BX.made hr
  obtain ⟨y10, k10, rfl⟩ := hr.1.shape
  obtain ⟨y11, k11, rfl⟩ := hr.2.1.shape
  obtain ⟨y12, k12, rfl⟩ := hr.2.2.shape
  obtain ⟨v1, hv1⟩ : ∃ W, W = wq.alloc (.cells #[.slice y10 gA.1.length k10, .slice y11 gA.2.1.length k11, .slice y12 gA.2.2.length k12] 33) := ⟨_, rfl⟩
  rw [← hv1] at hX
  clear hS_0 hS_1 hS_2 hS_3 hS_4 hS_5 hS_6 hS_7 hS_8 hS_9
  have P2 := hid (show Pure w1 v1 from hp.then_ (by rw [hv1]; exact (Below.refl _ _).alloc (Nat.le_refl _) _))
  have HX1 := hid (fun W (hW : Pure v1 W) => hX.pure hW)
  have hsz1 := hid (show wq.heap.size < v1.heap.size from by rw [hv1]; simp)
  have hse1 := hid (show v1.heap.size = wq.heap.size + 1 from by rw [hv1]; simp)
  clear hr hp hf hX
  generalize hn1 : wq.heap.size = na at *
  obtain ⟨hS_0, hS_1, hS_2, hS_3, hS_4, hS_5, hS_6, hS_7, hS_8, hS_9⟩ := (hS.out v1 (P1.out.then_ P2.out))
  obtain ⟨HX1_0, HX1_1, HX1_2⟩ := (HX1.out v1 (Below.refl _ _)).cells
  rw [hv1] at hS_0 hS_1 hS_2 hS_3 hS_4 hS_5 hS_6 hS_7 hS_8 hS_9 HX1_0 HX1_1 HX1_2
  go_wp2_with fail
  rw [← hv1]
  clear hS_0 hS_1 hS_2 hS_3 hS_4 hS_5 hS_6 hS_7 hS_8 hS_9 HX1_0 HX1_1 HX1_2
  clear hv1 hn1
  refine (HB.out v1 (P1.out.then_ P2.out)).mono ?_
  rintro e wq ⟨x0, x1, x2, rfl, hr, hp, hf⟩
  have hX := BX.made hr
  obtain ⟨y20, k20, rfl⟩ := hr.1.shape
  obtain ⟨y21, k21, rfl⟩ := hr.2.1.shape
  obtain ⟨y22, k22, rfl⟩ := hr.2.2.shape
  obtain ⟨v2, hv2⟩ : ∃ W, W = wq.alloc (.cells #[.slice y20 gB.1.length k20, .slice y21 gB.2.1.length k21, .slice y22 gB.2.2.length k22] 33) := ⟨_, rfl⟩
  rw [← hv2] at hX
  have P3 := hid (show Pure v1 v2 from hp.then_ (by rw [hv2]; exact (Below.refl _ _).alloc (Nat.le_refl _) _))
  have HX2 := hid (fun W (hW : Pure v2 W) => hX.pure hW)
  have hsz2 := hid (show wq.heap.size < v2.heap.size from by rw [hv2]; simp)
  have hse2 := hid (show v2.heap.size = wq.heap.size + 1 from by rw [hv2]; simp)
  clear hr hp hf hX
  generalize hn2 : wq.heap.size = nb at *
  obtain ⟨hS_0, hS_1, hS_2, hS_3, hS_4, hS_5, hS_6, hS_7, hS_8, hS_9⟩ := (hS.out v2 (P1.out.then_ (P2.out.then_ P3.out)))
  obtain ⟨HX1_0, HX1_1, HX1_2⟩ := (HX1.out v2 P3.out).cells
  obtain ⟨HX2_0, HX2_1, HX2_2⟩ := (HX2.out v2 (Below.refl _ _)).cells
  rw [hv2] at hS_0 hS_1 hS_2 hS_3 hS_4 hS_5 hS_6 hS_7 hS_8 hS_9 HX1_0 HX1_1 HX1_2 HX2_0 HX2_1 HX2_2
  go_wp2_with fail
  rw [← hv2]
  clear hS_0 hS_1 hS_2 hS_3 hS_4 hS_5 hS_6 hS_7 hS_8 hS_9 HX1_0 HX1_1 HX1_2 HX2_0 HX2_1 HX2_2
  clear hv2 hn2
  refine (HC.out v2 (P1.out.then_ (P2.out.then_ P3.out))).mono ?_
  rintro e wq ⟨x0, x1, x2, rfl, hr, hp, hf⟩
  have hX := BX.made hr
  obtain ⟨y30, k30, rfl⟩ := hr.1.shape
  obtain ⟨y31, k31, rfl⟩ := hr.2.1.shape
  obtain ⟨y32, k32, rfl⟩ := hr.2.2.shape
  obtain ⟨v3, hv3⟩ : ∃ W, W = wq.alloc (.cells #[.slice y30 gC.1.length k30, .slice y31 gC.2.1.length k31, .slice y32 gC.2.2.length k32] 33) := ⟨_, rfl⟩
  rw [← hv3] at hX
  have P4 := hid (show Pure v2 v3 from hp.then_ (by rw [hv3]; exact (Below.refl _ _).alloc (Nat.le_refl _) _))
  have HX3 := hid (fun W (hW : Pure v3 W) => hX.pure hW)
  have hsz3 := hid (show wq.heap.size < v3.heap.size from by rw [hv3]; simp)
  have hse3 := hid (show v3.heap.size = wq.heap.size + 1 from by rw [hv3]; simp)
  clear hr hp hf hX
  generalize hn3 : wq.heap.size = nc at *
  obtain ⟨hS_0, hS_1, hS_2, hS_3, hS_4, hS_5, hS_6, hS_7, hS_8, hS_9⟩ := (hS.out v3 (P1.out.then_ (P2.out.then_ (P3.out.then_ P4.out))))
  obtain ⟨HX3_0, HX3_1, HX3_2⟩ := (HX3.out v3 (Below.refl _ _)).cells
  rw [hv3] at hS_0 hS_1 hS_2 hS_3 hS_4 hS_5 hS_6 hS_7 hS_8 hS_9 HX3_0 HX3_1 HX3_2
  obtain ⟨HX1_0, HX1_1, HX1_2⟩ := (HX1.out v3 (P3.out.then_ P4.out)).cells
  obtain ⟨HX2_0, HX2_1, HX2_2⟩ := (HX2.out v3 P4.out).cells
  rw [hv3] at HX1_0 HX1_1 HX1_2 HX2_0 HX2_1 HX2_2
  go_wp2_with fail
  rw [← hv3]
  clear hS_0 hS_1 hS_2 hS_3 hS_4 hS_5 hS_6 hS_7 hS_8 hS_9 HX3_0 HX3_1 HX3_2 HX1_0 HX1_1 HX1_2 HX2_0 HX2_1 HX2_2
  clear hv3 hn3
  generalize Value.slice y10 gA.1.length k10 = z10 at *
  generalize Value.slice y11 gA.2.1.length k11 = z11 at *
  generalize Value.slice y12 gA.2.2.length k12 = z12 at *
  generalize Value.slice y20 gB.1.length k20 = z20 at *
  generalize Value.slice y21 gB.2.1.length k21 = z21 at *
  generalize Value.slice y22 gB.2.2.length k22 = z22 at *
  generalize Value.slice y30 gC.1.length k30 = z30 at *
  generalize Value.slice y31 gC.2.1.length k31 = z31 at *
  generalize Value.slice y32 gC.2.2.length k32 = z32 at *
  clear HA HB HC hS
  have hg := hid (sjoinP (HX1.out v3 (P3.out.then_ P4.out)).r (HX2.out v3 P4.out).r okA.out okB.out rfl)
  unfold BagO at hg
  have okJ := hid (okA.out.join okB.out)
  have e1 := hid (bjoin_comm okB.out okA.out)
  have e2 := hid (bjoin_assoc okA.out okB.out okC.out)
  have e3 := hid (bcov_join okA.out okB.out)
  have e4 := hid (bcov_join' okA.out okB.out)
  have e5 := hid (bjoin_self okA.out)
  have okL := hid (okB.out.join okC.out)
  generalize bjoin gA gB = gJ at *
  refine (hg.out).mono ?_
  rintro e wq ⟨x0, x1, x2, rfl, hr, hp, hf⟩
  have hX := BX.made hr
  obtain ⟨y40, k40, rfl⟩ := hr.1.shape
  obtain ⟨y41, k41, rfl⟩ := hr.2.1.shape
  obtain ⟨y42, k42, rfl⟩ := hr.2.2.shape
  obtain ⟨v4, hv4⟩ : ∃ W, W = wq.alloc (.cells #[.slice y40 gJ.1.length k40, .slice y41 gJ.2.1.length k41, .slice y42 gJ.2.2.length k42] 33) := ⟨_, rfl⟩
  rw [← hv4] at hX
  have P5 := hid (show Pure v3 v4 from hp.then_ (by rw [hv4]; exact (Below.refl _ _).alloc (Nat.le_refl _) _))
  have HX4 := hid (fun W (hW : Pure v4 W) => hX.pure hW)
  have hsz4 := hid (show wq.heap.size < v4.heap.size from by rw [hv4]; simp)
  have hse4 := hid (show v4.heap.size = wq.heap.size + 1 from by rw [hv4]; simp)
  clear hr hp hf hX
  generalize hn4 : wq.heap.size = nj at *
  obtain ⟨HX1_0, HX1_1, HX1_2⟩ := (HX1.out v4 (P3.out.then_ (P4.out.then_ P5.out))).cells
  obtain ⟨HX2_0, HX2_1, HX2_2⟩ := (HX2.out v4 (P4.out.then_ P5.out)).cells
  obtain ⟨HX3_0, HX3_1, HX3_2⟩ := (HX3.out v4 P5.out).cells
  obtain ⟨HX4_0, HX4_1, HX4_2⟩ := (HX4.out v4 (Below.refl _ _)).cells
  rw [hv4] at HX1_0 HX1_1 HX1_2 HX2_0 HX2_1 HX2_2 HX3_0 HX3_1 HX3_2 HX4_0 HX4_1 HX4_2
  go_wp2_with fail
  rw [← hv4]
  clear HX1_0 HX1_1 HX1_2 HX2_0 HX2_1 HX2_2 HX3_0 HX3_1 HX3_2 HX4_0 HX4_1 HX4_2
  clear hv4 hn4
  generalize Value.slice y40 gJ.1.length k40 = z40 at *
  generalize Value.slice y41 gJ.2.1.length k41 = z41 at *
  generalize Value.slice y42 gJ.2.2.length k42 = z42 at *
  clear hg
  have qa := hid (fun W (hW : Pure v4 W) => sjoinP (HX2.out W ((P4.out.then_ P5.out).then_ hW)).r (HX1.out W ((P3.out.then_ (P4.out.then_ P5.out)).then_ hW)).r okB.out okA.out e1.out)
  have qs := hid (fun W (hW : Pure v4 W) s0 s1 s2 (hs : BR3 s0 s1 s2 gJ W) => rsameP5 (HX4.out W hW).r hs)
  unfold BagO at qa
  have hS1 : Hid (∀ W, Pure v4 W → (W.cell? ⟨na, 0, none⟩ = some z10 ∧ W.cell? ⟨na, 1, none⟩ = some z11 ∧ W.cell? ⟨na, 2, none⟩ = some z12 ∧ W.cell? ⟨nb, 0, none⟩ = some z20 ∧ W.cell? ⟨nb, 1, none⟩ = some z21 ∧ W.cell? ⟨nb, 2, none⟩ = some z22 ∧ W.cell? ⟨nc, 0, none⟩ = some z30 ∧ W.cell? ⟨nc, 1, none⟩ = some z31 ∧ W.cell? ⟨nc, 2, none⟩ = some z32 ∧ W.cell? ⟨nj, 0, none⟩ = some z40 ∧ W.cell? ⟨nj, 1, none⟩ = some z41 ∧ W.cell? ⟨nj, 2, none⟩ = some z42 ∧ Pure v4 W)) := fun W hW => by
    obtain ⟨eHX10, eHX11, eHX12⟩ := (HX1.out W ((P3.out.then_ (P4.out.then_ P5.out)).then_ hW)).cells
    obtain ⟨eHX20, eHX21, eHX22⟩ := (HX2.out W ((P4.out.then_ P5.out).then_ hW)).cells
    obtain ⟨eHX30, eHX31, eHX32⟩ := (HX3.out W (P5.out.then_ hW)).cells
    obtain ⟨eHX40, eHX41, eHX42⟩ := (HX4.out W hW).cells
    exact ⟨eHX10, eHX11, eHX12, eHX20, eHX21, eHX22, eHX30, eHX31, eHX32, eHX40, eHX41, eHX42, hW⟩
  have hS2 : Hid (∀ W : World, (W.cell? ⟨na, 0, none⟩ = some z10 ∧ W.cell? ⟨na, 1, none⟩ = some z11 ∧ W.cell? ⟨na, 2, none⟩ = some z12 ∧ W.cell? ⟨nb, 0, none⟩ = some z20 ∧ W.cell? ⟨nb, 1, none⟩ = some z21 ∧ W.cell? ⟨nb, 2, none⟩ = some z22 ∧ W.cell? ⟨nc, 0, none⟩ = some z30 ∧ W.cell? ⟨nc, 1, none⟩ = some z31 ∧ W.cell? ⟨nc, 2, none⟩ = some z32 ∧ W.cell? ⟨nj, 0, none⟩ = some z40 ∧ W.cell? ⟨nj, 1, none⟩ = some z41 ∧ W.cell? ⟨nj, 2, none⟩ = some z42 ∧ Pure v4 W) → Pure v4 W) := fun W h => h.2.2.2.2.2.2.2.2.2.2.2.2
  have hst := hid (hS1.out v4.drew (Below.refl _ _).drew)
  go_wp2_with fail
  go_region_held3 (fun W => W.cell? ⟨na, 0, none⟩ = some z10 ∧ W.cell? ⟨na, 1, none⟩ = some z11 ∧ W.cell? ⟨na, 2, none⟩ = some z12 ∧ W.cell? ⟨nb, 0, none⟩ = some z20 ∧ W.cell? ⟨nb, 1, none⟩ = some z21 ∧ W.cell? ⟨nb, 2, none⟩ = some z22 ∧ W.cell? ⟨nc, 0, none⟩ = some z30 ∧ W.cell? ⟨nc, 1, none⟩ = some z31 ∧ W.cell? ⟨nc, 2, none⟩ = some z32 ∧ W.cell? ⟨nj, 0, none⟩ = some z40 ∧ W.cell? ⟨nj, 1, none⟩ = some z41 ∧ W.cell? ⟨nj, 2, none⟩ = some z42 ∧ Pure v4 W)
    (first | with_reducible exact hst.out | with_reducible assumption | with_reducible exact hS1.out _ (Pure.then_ (hS2.out _ (by assumption)) (by assumption)))
    ((first
      | (go_at_call 13; ((refine (qa.out _ (hS2.out _ (by assumption))).mono ?_)); rintro e w7 ⟨s0, s1, s2, rfl, h7, hp7, _⟩)
      | (go_at_call 21; ((refine (qs.out _ (hS2.out _ (by assumption)) _ _ _ h7).mono ?_)); rintro e w19 ⟨rfl, hp9⟩)))
  have P6 := hid (show Pure v4 w19 from hS2.out w19 (by assumption))
  clear hst hS1 hS2
  clear h7 hp7 hp9 qa qs
  have qa := hid (fun W (hW : Pure w19 W) => sjoinP (HX4.out W (P6.out.then_ hW)).r (HX3.out W ((P5.out.then_ P6.out).then_ hW)).r okJ.out okC.out e2.out)
  have qb := hid (fun W (hW : Pure w19 W) => sjoinP (HX2.out W ((P4.out.then_ (P5.out.then_ P6.out)).then_ hW)).r (HX3.out W ((P5.out.then_ P6.out).then_ hW)).r okB.out okC.out rfl)
  have qc := hid (fun W (hW : Pure w19 W) s0 s1 s2 (hs : BR3 s0 s1 s2 (bjoin gB gC) W) => sjoinP (HX1.out W ((P3.out.then_ (P4.out.then_ (P5.out.then_ P6.out))).then_ hW)).r hs okA.out okL.out rfl)
  have qs := hid (fun W s0 s1 s2 t0 t1 t2 (hs : BR3 s0 s1 s2 (bjoin gA (bjoin gB gC)) W) (ht : BR3 t0 t1 t2 (bjoin gA (bjoin gB gC)) W) => rsameP5 hs ht)
  unfold BagO at qa qb qc
  generalize bjoin gA (bjoin gB gC) = gK at *
  generalize bjoin gB gC = gL at *
  have hS1 : Hid (∀ W, Pure w19 W → (W.cell? ⟨na, 0, none⟩ = some z10 ∧ W.cell? ⟨na, 1, none⟩ = some z11 ∧ W.cell? ⟨na, 2, none⟩ = some z12 ∧ W.cell? ⟨nb, 0, none⟩ = some z20 ∧ W.cell? ⟨nb, 1, none⟩ = some z21 ∧ W.cell? ⟨nb, 2, none⟩ = some z22 ∧ W.cell? ⟨nc, 0, none⟩ = some z30 ∧ W.cell? ⟨nc, 1, none⟩ = some z31 ∧ W.cell? ⟨nc, 2, none⟩ = some z32 ∧ W.cell? ⟨nj, 0, none⟩ = some z40 ∧ W.cell? ⟨nj, 1, none⟩ = some z41 ∧ W.cell? ⟨nj, 2, none⟩ = some z42 ∧ Pure w19 W)) := fun W hW => by
    obtain ⟨eHX10, eHX11, eHX12⟩ := (HX1.out W ((P3.out.then_ (P4.out.then_ (P5.out.then_ P6.out))).then_ hW)).cells
    obtain ⟨eHX20, eHX21, eHX22⟩ := (HX2.out W ((P4.out.then_ (P5.out.then_ P6.out)).then_ hW)).cells
    obtain ⟨eHX30, eHX31, eHX32⟩ := (HX3.out W ((P5.out.then_ P6.out).then_ hW)).cells
    obtain ⟨eHX40, eHX41, eHX42⟩ := (HX4.out W (P6.out.then_ hW)).cells
    exact ⟨eHX10, eHX11, eHX12, eHX20, eHX21, eHX22, eHX30, eHX31, eHX32, eHX40, eHX41, eHX42, hW⟩
  have hS2 : Hid (∀ W : World, (W.cell? ⟨na, 0, none⟩ = some z10 ∧ W.cell? ⟨na, 1, none⟩ = some z11 ∧ W.cell? ⟨na, 2, none⟩ = some z12 ∧ W.cell? ⟨nb, 0, none⟩ = some z20 ∧ W.cell? ⟨nb, 1, none⟩ = some z21 ∧ W.cell? ⟨nb, 2, none⟩ = some z22 ∧ W.cell? ⟨nc, 0, none⟩ = some z30 ∧ W.cell? ⟨nc, 1, none⟩ = some z31 ∧ W.cell? ⟨nc, 2, none⟩ = some z32 ∧ W.cell? ⟨nj, 0, none⟩ = some z40 ∧ W.cell? ⟨nj, 1, none⟩ = some z41 ∧ W.cell? ⟨nj, 2, none⟩ = some z42 ∧ Pure w19 W) → Pure w19 W) := fun W h => h.2.2.2.2.2.2.2.2.2.2.2.2
  have hst := hid (hS1.out w19.drew (Below.refl _ _).drew)
  go_wp2_with fail
  go_region_held3 (fun W => W.cell? ⟨na, 0, none⟩ = some z10 ∧ W.cell? ⟨na, 1, none⟩ = some z11 ∧ W.cell? ⟨na, 2, none⟩ = some z12 ∧ W.cell? ⟨nb, 0, none⟩ = some z20 ∧ W.cell? ⟨nb, 1, none⟩ = some z21 ∧ W.cell? ⟨nb, 2, none⟩ = some z22 ∧ W.cell? ⟨nc, 0, none⟩ = some z30 ∧ W.cell? ⟨nc, 1, none⟩ = some z31 ∧ W.cell? ⟨nc, 2, none⟩ = some z32 ∧ W.cell? ⟨nj, 0, none⟩ = some z40 ∧ W.cell? ⟨nj, 1, none⟩ = some z41 ∧ W.cell? ⟨nj, 2, none⟩ = some z42 ∧ Pure w19 W)
    (first | with_reducible exact hst.out | with_reducible assumption | with_reducible exact hS1.out _ (Pure.then_ (hS2.out _ (by assumption)) (by assumption)))
    ((first
      | (go_at_call 13; (first | (with_reducible refine (qa.out _ (hS2.out _ (by assumption))).mono ?_)); rintro e w7 ⟨s0, s1, s2, rfl, h7, hp7, _⟩)
      | (go_at_call 13; (first | (with_reducible refine (qb.out _ (hS2.out _ (by assumption))).mono ?_)); rintro e w8 ⟨t0, t1, t2, rfl, h8, hp8, _⟩)
      | (go_at_call 13; (first | (with_reducible refine (qc.out _ (hS2.out _ (by assumption)) _ _ _ h8).mono ?_) | (with_reducible refine (qc.out _ (hS2.out _ (by assumption)) _ _ _ (h8.pure hp7)).mono ?_)); rintro e w9 ⟨u0, u1, u2, rfl, h9, hp9, _⟩)
      | (go_at_call 21; (first | (with_reducible refine (qs.out _ _ _ _ _ _ _ (h7.pure (hp8.then_ hp9)) h9).mono ?_) | (with_reducible refine (qs.out _ _ _ _ _ _ _ (h7.pure hp9) h9).mono ?_) | (with_reducible refine (qs.out _ _ _ _ _ _ _ h7 (h9.pure hp7)).mono ?_)); rintro e w29 ⟨rfl, hp10⟩)))
  have P7 := hid (show Pure w19 w29 from hS2.out w29 (by assumption))
  clear hst hS1 hS2
  clear h7 hp7 h8 hp8 h9 hp9 hp10 qa qb qc qs
  have qa := hid (fun W (hW : Pure w29 W) => sjoinP (HX1.out W ((P3.out.then_ (P4.out.then_ (P5.out.then_ (P6.out.then_ P7.out)))).then_ hW)).r (HX1.out W ((P3.out.then_ (P4.out.then_ (P5.out.then_ (P6.out.then_ P7.out)))).then_ hW)).r okA.out okA.out e5.out)
  have qs := hid (fun W (hW : Pure w29 W) s0 s1 s2 (hs : BR3 s0 s1 s2 gA W) => rsameP5 hs (HX1.out W ((P3.out.then_ (P4.out.then_ (P5.out.then_ (P6.out.then_ P7.out)))).then_ hW)).r)
  unfold BagO at qa
  have hS1 : Hid (∀ W, Pure w29 W → (W.cell? ⟨na, 0, none⟩ = some z10 ∧ W.cell? ⟨na, 1, none⟩ = some z11 ∧ W.cell? ⟨na, 2, none⟩ = some z12 ∧ W.cell? ⟨nb, 0, none⟩ = some z20 ∧ W.cell? ⟨nb, 1, none⟩ = some z21 ∧ W.cell? ⟨nb, 2, none⟩ = some z22 ∧ W.cell? ⟨nj, 0, none⟩ = some z40 ∧ W.cell? ⟨nj, 1, none⟩ = some z41 ∧ W.cell? ⟨nj, 2, none⟩ = some z42 ∧ Pure w29 W)) := fun W hW => by
    obtain ⟨eHX10, eHX11, eHX12⟩ := (HX1.out W ((P3.out.then_ (P4.out.then_ (P5.out.then_ (P6.out.then_ P7.out)))).then_ hW)).cells
    obtain ⟨eHX20, eHX21, eHX22⟩ := (HX2.out W ((P4.out.then_ (P5.out.then_ (P6.out.then_ P7.out))).then_ hW)).cells
    obtain ⟨eHX40, eHX41, eHX42⟩ := (HX4.out W ((P6.out.then_ P7.out).then_ hW)).cells
    exact ⟨eHX10, eHX11, eHX12, eHX20, eHX21, eHX22, eHX40, eHX41, eHX42, hW⟩
  have hS2 : Hid (∀ W : World, (W.cell? ⟨na, 0, none⟩ = some z10 ∧ W.cell? ⟨na, 1, none⟩ = some z11 ∧ W.cell? ⟨na, 2, none⟩ = some z12 ∧ W.cell? ⟨nb, 0, none⟩ = some z20 ∧ W.cell? ⟨nb, 1, none⟩ = some z21 ∧ W.cell? ⟨nb, 2, none⟩ = some z22 ∧ W.cell? ⟨nj, 0, none⟩ = some z40 ∧ W.cell? ⟨nj, 1, none⟩ = some z41 ∧ W.cell? ⟨nj, 2, none⟩ = some z42 ∧ Pure w29 W) → Pure w29 W) := fun W h => h.2.2.2.2.2.2.2.2.2
  have hst := hid (hS1.out w29.drew (Below.refl _ _).drew)
  go_wp2_with fail
  go_region_held3 (fun W => W.cell? ⟨na, 0, none⟩ = some z10 ∧ W.cell? ⟨na, 1, none⟩ = some z11 ∧ W.cell? ⟨na, 2, none⟩ = some z12 ∧ W.cell? ⟨nb, 0, none⟩ = some z20 ∧ W.cell? ⟨nb, 1, none⟩ = some z21 ∧ W.cell? ⟨nb, 2, none⟩ = some z22 ∧ W.cell? ⟨nj, 0, none⟩ = some z40 ∧ W.cell? ⟨nj, 1, none⟩ = some z41 ∧ W.cell? ⟨nj, 2, none⟩ = some z42 ∧ Pure w29 W)
    (first | with_reducible exact hst.out | with_reducible assumption | with_reducible exact hS1.out _ (Pure.then_ (hS2.out _ (by assumption)) (by assumption)))
    ((first
      | (go_at_call 13; ((refine (qa.out _ (hS2.out _ (by assumption))).mono ?_)); rintro e w37 ⟨s0, s1, s2, rfl, h7, hp7, _⟩)
      | (go_at_call 21; ((refine (qs.out _ (hS2.out _ (by assumption)) _ _ _ h7).mono ?_)); rintro e w39 ⟨rfl, hp9⟩)))
  have P8 := hid (show Pure w29 w39 from hS2.out w39 (by assumption))
  clear hst hS1 hS2
  clear h7 hp7 hp9 qa qs
  obtain ⟨HX1_0, HX1_1, HX1_2⟩ := (HX1.out w39 (P3.out.then_ (P4.out.then_ (P5.out.then_ (P6.out.then_ (P7.out.then_ P8.out)))))).cells
  obtain ⟨HX2_0, HX2_1, HX2_2⟩ := (HX2.out w39 (P4.out.then_ (P5.out.then_ (P6.out.then_ (P7.out.then_ P8.out))))).cells
  obtain ⟨HX4_0, HX4_1, HX4_2⟩ := (HX4.out w39 (P6.out.then_ (P7.out.then_ P8.out))).cells
  go_wp2_with fail
  refine (scoversP (HX4.out w39 (P6.out.then_ (P7.out.then_ P8.out))).r (HX1.out w39 (P3.out.then_ (P4.out.then_ (P5.out.then_ (P6.out.then_ (P7.out.then_ P8.out)))))).r okJ.out okA.out e3.out).mono ?_
  rintro e w40 ⟨rfl, hp⟩
  clear HX1_0 HX1_1 HX1_2 HX2_0 HX2_1 HX2_2 HX4_0 HX4_1 HX4_2
  have P9 := hid (show Pure w39 w40 from hp)
  clear hp
  obtain ⟨HX1_0, HX1_1, HX1_2⟩ := (HX1.out w40 (P3.out.then_ (P4.out.then_ (P5.out.then_ (P6.out.then_ (P7.out.then_ (P8.out.then_ P9.out))))))).cells
  obtain ⟨HX2_0, HX2_1, HX2_2⟩ := (HX2.out w40 (P4.out.then_ (P5.out.then_ (P6.out.then_ (P7.out.then_ (P8.out.then_ P9.out)))))).cells
  obtain ⟨HX4_0, HX4_1, HX4_2⟩ := (HX4.out w40 (P6.out.then_ (P7.out.then_ (P8.out.then_ P9.out)))).cells
  go_wp2_with fail
  refine (scoversP (HX4.out w40 (P6.out.then_ (P7.out.then_ (P8.out.then_ P9.out)))).r (HX2.out w40 (P4.out.then_ (P5.out.then_ (P6.out.then_ (P7.out.then_ (P8.out.then_ P9.out)))))).r okJ.out okB.out e4.out).mono ?_
  rintro e w41 ⟨rfl, hp⟩
  clear HX1_0 HX1_1 HX1_2 HX2_0 HX2_1 HX2_2 HX4_0 HX4_1 HX4_2
  have P10 := hid (show Pure w40 w41 from hp)
  clear hp
  go_wp2
  go_ret
  exact ⟨rfl, Hpz.out.then_ (P1.out.then_ (P2.out.then_ (P3.out.then_ (P4.out.then_ (P5.out.then_ (P6.out.then_ (P7.out.then_ (P8.out.then_ (P9.out.then_ P10.out)))))))))⟩
end Go.Proofs.YtbcbmnifbflmaaaGreat
