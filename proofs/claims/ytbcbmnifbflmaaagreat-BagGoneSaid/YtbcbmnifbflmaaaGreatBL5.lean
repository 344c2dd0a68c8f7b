/- BagLess. -/
import Derived.Test.YtbcbmnifbflmaaaGreatBO
import Derived.Test.YtbcbmnifbflmaaaGreatBN
namespace Go.Proofs.YtbcbmnifbflmaaaGreat
open Go.RowKit Go.Maps Go.Shelf Go.Sort

/-- A name in a box. -/
structure DX (n : Nat) (x y : Int) (W : World) : Prop where
  b : W.heap[n]? = some (.cells #[.int .i64 x, .int .i64 y] 28 (0, 0))
theorem DX.pure {n : Nat} {x y : Int} {W W' : World} (h : DX n x y W) (hp : Pure W W') : DX n x y W' := ⟨(hp.block _ (lt_of_block h.b)).trans h.b⟩
theorem DX.cells {n : Nat} {x y : Int} {W : World} (h : DX n x y W) : W.cell? ⟨n, 0, none⟩ = some (.int .i64 x) ∧ W.cell? ⟨n, 1, none⟩ = some (.int .i64 y) := ⟨cell_of_block h.b 0, cell_of_block h.b 1⟩
theorem DX.made (w : World) (x y : Int) : DX w.heap.size x y (w.alloc (.cells #[.int .i64 x, .int .i64 y] 28)) := ⟨block_alloc_new _ _⟩

set_option maxRecDepth 8000 in
set_option maxHeartbeats 8000000 in
theorem less_walk (a00 a01 a02 a10 a11 a12 : Value) (M0 M1 : List Msg) (G0 G1 : List Bool) (S0 S1 : List Dot) (d : Dot) (w : World) (h0 : PlanV5 w a00 a01 a02 M0 G0 S0) (h1 : PlanV5 w a10 a11 a12 M1 G1 S1) :
    Calls Tryz.prog 6 #[.agg #[a00, a01, a02], .agg #[a10, a11, a12], dv d] w fun e w' => e = .returned (.bool true) ∧ Pure w w' := by
  obtain ⟨wz, hwz, Hpz, hS⟩ := pk2d w a00 a01 a02 a10 a11 a12 d.1 d.2
  have HA := hid (fun W (hW : Pure wz W) => plan5G (h0.pure (Hpz.out.then_ hW)))
  have HB := hid (fun W (hW : Pure wz W) => plan5G (h1.pure (Hpz.out.then_ hW)))
  have HN := hid (fun W => name5_any d W)
  have okA := hid (planB5_ok S0 M0 G0)
  have okB := hid (planB5_ok S1 M1 G1)
  have hnU := hid (pname_mem d)
  have hnC := hid (pname_chk d)
  obtain ⟨dx, dy⟩ := d
  dsimp only at hwz hS
  unfold BagO at HA HB
  generalize planB5 S0 M0 G0 = gA at *
  generalize planB5 S1 M1 G1 = gB at *
  generalize pname (dx, dy) = nn at *
  obtain ⟨nx, ny⟩ := nn
  unfold dv at HN ⊢
  dsimp only at HN ⊢
  clear h0 h1
  go_enter Tryz.func6, Tryz.ntmps6
  go_wp2_with fail
  rw [← hwz]
  clear hwz
  refine (awake5_any wz).mono ?_
  rintro e w1 ⟨rfl, hp⟩
  have P1 := hid (show Pure wz w1 from hp)
  clear hp
  obtain ⟨hS_0, hS_1, hS_2, hS_3, hS_4, hS_5, hS_6, hS_7, hS_8⟩ := (hS.out w1 P1.out)
  go_wp2_with fail
  refine (HA.out w1 P1.out).mono ?_
  rintro e wq ⟨x0, x1, x2, rfl, hr, hp, hf⟩
  have hX := BX.made hr
  obtain ⟨y10, k10, rfl⟩ := hr.1.shape
  obtain ⟨y11, k11, rfl⟩ := hr.2.1.shape
  obtain ⟨y12, k12, rfl⟩ := hr.2.2.shape
  obtain ⟨v1, hv1⟩ : ∃ W, W = wq.alloc (.cells #[.slice y10 gA.1.length k10, .slice y11 gA.2.1.length k11, .slice y12 gA.2.2.length k12] 33) := ⟨_, rfl⟩
  rw [← hv1] at hX
  clear hS_0 hS_1 hS_2 hS_3 hS_4 hS_5 hS_6 hS_7 hS_8
  have P2 := hid (show Pure w1 v1 from hp.then_ (by rw [hv1]; exact (Below.refl _ _).alloc (Nat.le_refl _) _))
  have HX1 := hid (fun W (hW : Pure v1 W) => hX.pure hW)
  have hsz1 := hid (show wq.heap.size < v1.heap.size from by rw [hv1]; simp)
  have hse1 := hid (show v1.heap.size = wq.heap.size + 1 from by rw [hv1]; simp)
  clear hr hp hf hX
  generalize hn1 : wq.heap.size = na at *
  obtain ⟨hS_0, hS_1, hS_2, hS_3, hS_4, hS_5, hS_6, hS_7, hS_8⟩ := (hS.out v1 (P1.out.then_ P2.out))
  obtain ⟨HX1_0, HX1_1, HX1_2⟩ := (HX1.out v1 (Below.refl _ _)).cells
  rw [hv1] at hS_0 hS_1 hS_2 hS_3 hS_4 hS_5 hS_6 hS_7 hS_8 HX1_0 HX1_1 HX1_2
  go_wp2_with fail
  rw [← hv1]
  clear hS_0 hS_1 hS_2 hS_3 hS_4 hS_5 hS_6 hS_7 hS_8 HX1_0 HX1_1 HX1_2
  clear hv1 hn1
  refine (HB.out v1 (P1.out.then_ P2.out)).mono ?_
  rintro e wq ⟨x0, x1, x2, rfl, hr, hp, hf⟩
  have hX := BX.made hr
  obtain ⟨y20, k20, rfl⟩ := hr.1.shape
  obtain ⟨y21, k21, rfl⟩ := hr.2.1.shape
  obtain ⟨y22, k22, rfl⟩ := hr.2.2.shape
  obtain ⟨v2, hv2⟩ : ∃ W, W = wq.alloc (.cells #[.slice y20 gB.1.length k20, .slice y21 gB.2.1.length k21, .slice y22 gB.2.2.length k22] 33) := ⟨_, rfl⟩
  rw [← hv2] at hX
  have P3 := hid (show Pure v1 v2 from hp.then_ (by rw [hv2]; exact (Below.refl _ _).alloc (Nat.le_refl _) _))
  have HX2 := hid (fun W (hW : Pure v2 W) => hX.pure hW)
  have hsz2 := hid (show wq.heap.size < v2.heap.size from by rw [hv2]; simp)
  have hse2 := hid (show v2.heap.size = wq.heap.size + 1 from by rw [hv2]; simp)
  clear hr hp hf hX
  generalize hn2 : wq.heap.size = nb at *
  obtain ⟨hS_0, hS_1, hS_2, hS_3, hS_4, hS_5, hS_6, hS_7, hS_8⟩ := (hS.out v2 (P1.out.then_ (P2.out.then_ P3.out)))
  obtain ⟨HX2_0, HX2_1, HX2_2⟩ := (HX2.out v2 (Below.refl _ _)).cells
  rw [hv2] at hS_0 hS_1 hS_2 hS_3 hS_4 hS_5 hS_6 hS_7 hS_8 HX2_0 HX2_1 HX2_2
  go_wp2_with fail
  rw [← hv2]
  clear hS_0 hS_1 hS_2 hS_3 hS_4 hS_5 hS_6 hS_7 hS_8 HX2_0 HX2_1 HX2_2
  clear hv2 hn2
  refine (HN.out v2).mono ?_
  rintro e wq ⟨rfl, hp⟩
  have hD := DX.made wq nx ny
  obtain ⟨v3, hv3⟩ : ∃ W, W = wq.alloc (.cells #[.int .i64 nx, .int .i64 ny] 28) := ⟨_, rfl⟩
  rw [← hv3] at hD
  have P4 := hid (show Pure v2 v3 from hp.then_ (by rw [hv3]; exact (Below.refl _ _).alloc (Nat.le_refl _) _))
  have HD := hid (fun W (hW : Pure v3 W) => hD.pure hW)
  clear hp hD HN
  generalize hn3 : wq.heap.size = nd at *
  obtain ⟨HX1_0, HX1_1, HX1_2⟩ := (HX1.out v3 (P3.out.then_ P4.out)).cells
  obtain ⟨HX2_0, HX2_1, HX2_2⟩ := (HX2.out v3 P4.out).cells
  obtain ⟨HD_0, HD_1⟩ := (HD.out v3 (Below.refl _ _)).cells
  rw [hv3] at HX1_0 HX1_1 HX1_2 HX2_0 HX2_1 HX2_2 HD_0 HD_1
  go_wp2_with fail
  rw [← hv3]
  clear HX1_0 HX1_1 HX1_2 HX2_0 HX2_1 HX2_2 HD_0 HD_1
  clear hv3 hn3
  generalize Value.slice y20 gB.1.length k20 = z20 at *
  generalize Value.slice y21 gB.2.1.length k21 = z21 at *
  generalize Value.slice y22 gB.2.2.length k22 = z22 at *
  clear HA HB hS
  have hg := hid (sjoinP (HX1.out v3 (P3.out.then_ P4.out)).r (HX2.out v3 P4.out).r okA.out okB.out rfl)
  unfold BagO at hg
  have okJ := hid (okA.out.join okB.out)
  have e1 := hid (bcov_join okA.out okB.out)
  have e2 := hid (remove_join okA.out hnU.out hnC.out)
  have e3 := hid (bjoin_nil okA.out)
  have e4 := hid (bjoin_self okA.out)
  have e5 := hid (remove_len gA.1 okA.out.r.md (nx, ny))
  have okR := hid (okA.out.remove hnU.out)
  have hlA := hid (show gA.1.length ≤ 64 from by have := okA.out.len; rw [U64_len] at this; exact this)
  have e6 : Hid ((bremove gA (nx, ny)).1.length + (if (lget gA.1 (nx, ny)).isSome then 1 else 0) = gA.1.length) := e5
  have hrm := hid (fun W (hW : Pure v3 W) => sremove_any _ _ _ gA (nx, ny) U64 W (HX1.out W ((P3.out.then_ P4.out).then_ hW)).r okA.out (by rw [U64_len]; decide) hnC.out)
  unfold BagT dv at hrm
  dsimp only at hrm
  clear e5
  generalize bremove gA (nx, ny) = gR at *
  generalize bjoin gA gB = gJ at *
  refine (hg.out).mono ?_
  rintro e wq ⟨x0, x1, x2, rfl, hr, hp, hf⟩
  have hX := BX.made hr
  obtain ⟨y40, k40, rfl⟩ := hr.1.shape
  obtain ⟨y41, k41, rfl⟩ := hr.2.1.shape
  obtain ⟨y42, k42, rfl⟩ := hr.2.2.shape
  obtain ⟨v4, hv4⟩ : ∃ W, W = wq.alloc (.cells #[.slice y40 gJ.1.length k40, .slice y41 gJ.2.1.length k41, .slice y42 gJ.2.2.length k42] 33) := ⟨_, rfl⟩
  rw [← hv4] at hX
  have P5 := hid (show Pure v3 v4 from hp.then_ (by rw [hv4]; exact (Below.refl _ _).alloc (Nat.le_refl _) _))
  have HX4 := hid (fun W (hW : Pure v4 W) => hX.pure hW)
  have hsz4 := hid (show wq.heap.size < v4.heap.size from by rw [hv4]; simp)
  have hse4 := hid (show v4.heap.size = wq.heap.size + 1 from by rw [hv4]; simp)
  clear hr hp hf hX
  generalize hn4 : wq.heap.size = nj at *
  obtain ⟨HX1_0, HX1_1, HX1_2⟩ := (HX1.out v4 (P3.out.then_ (P4.out.then_ P5.out))).cells
  obtain ⟨HX2_0, HX2_1, HX2_2⟩ := (HX2.out v4 (P4.out.then_ P5.out)).cells
  obtain ⟨HD_0, HD_1⟩ := (HD.out v4 P5.out).cells
  obtain ⟨HX4_0, HX4_1, HX4_2⟩ := (HX4.out v4 (Below.refl _ _)).cells
  rw [hv4] at HX1_0 HX1_1 HX1_2 HX2_0 HX2_1 HX2_2 HD_0 HD_1 HX4_0 HX4_1 HX4_2
  go_wp2_with fail
  rw [← hv4]
  clear HX1_0 HX1_1 HX1_2 HX2_0 HX2_1 HX2_2 HD_0 HD_1 HX4_0 HX4_1 HX4_2
  clear hv4 hn4
  generalize Value.slice y40 gJ.1.length k40 = z40 at *
  generalize Value.slice y41 gJ.2.1.length k41 = z41 at *
  generalize Value.slice y42 gJ.2.2.length k42 = z42 at *
  clear hg
  refine (hrm.out v4 P5.out).mono ?_
  rintro e wq ⟨x0, x1, x2, rfl, hr, hp, hf⟩
  have hX := BX.made hr
  obtain ⟨y50, k50, rfl⟩ := hr.1.shape
  obtain ⟨y51, k51, rfl⟩ := hr.2.1.shape
  obtain ⟨y52, k52, rfl⟩ := hr.2.2.shape
  obtain ⟨v5, hv5⟩ : ∃ W, W = wq.alloc (.cells #[.slice y50 gR.1.length k50, .slice y51 gR.2.1.length k51, .slice y52 gR.2.2.length k52] 33) := ⟨_, rfl⟩
  rw [← hv5] at hX
  have P6 := hid (show Pure v4 v5 from hp.then_ (by rw [hv5]; exact (Below.refl _ _).alloc (Nat.le_refl _) _))
  have HX5 := hid (fun W (hW : Pure v5 W) => hX.pure hW)
  have hsz5 := hid (show wq.heap.size < v5.heap.size from by rw [hv5]; simp)
  have hse5 := hid (show v5.heap.size = wq.heap.size + 1 from by rw [hv5]; simp)
  clear hr hp hf hX
  generalize hn5 : wq.heap.size = ng at *
  obtain ⟨HX1_0, HX1_1, HX1_2⟩ := (HX1.out v5 (P3.out.then_ (P4.out.then_ (P5.out.then_ P6.out)))).cells
  obtain ⟨HD_0, HD_1⟩ := (HD.out v5 (P5.out.then_ P6.out)).cells
  obtain ⟨HX5_0, HX5_1, HX5_2⟩ := (HX5.out v5 (Below.refl _ _)).cells
  rw [hv5] at HX1_0 HX1_1 HX1_2 HD_0 HD_1 HX5_0 HX5_1 HX5_2
  obtain ⟨HX4_0, HX4_1, HX4_2⟩ := (HX4.out v5 P6.out).cells
  rw [hv5] at HX4_0 HX4_1 HX4_2
  go_wp2_with fail
  rw [← hv5]
  clear HX1_0 HX1_1 HX1_2 HD_0 HD_1 HX5_0 HX5_1 HX5_2 HX4_0 HX4_1 HX4_2
  clear hv5 hn5
  clear hrm
  have qa := hid (fun W (hW : Pure v5 W) => sjoinP (HX4.out W (P6.out.then_ hW)).r (HX1.out W ((P3.out.then_ (P4.out.then_ (P5.out.then_ P6.out))).then_ hW)).r okJ.out okA.out e1.out)
  have qs := hid (fun W (hW : Pure v5 W) s0 s1 s2 (hs : BR3 s0 s1 s2 gJ W) => rsameP5 hs (HX4.out W (P6.out.then_ hW)).r)
  unfold BagO at qa
  have hS1 : Hid (∀ W, Pure v5 W → (W.cell? ⟨na, 0, none⟩ = some (.slice y10 gA.1.length k10) ∧ W.cell? ⟨na, 1, none⟩ = some (.slice y11 gA.2.1.length k11) ∧ W.cell? ⟨na, 2, none⟩ = some (.slice y12 gA.2.2.length k12) ∧ W.cell? ⟨nj, 0, none⟩ = some z40 ∧ W.cell? ⟨nj, 1, none⟩ = some z41 ∧ W.cell? ⟨nj, 2, none⟩ = some z42 ∧ Pure v5 W)) := fun W hW => by
    obtain ⟨eHX10, eHX11, eHX12⟩ := (HX1.out W ((P3.out.then_ (P4.out.then_ (P5.out.then_ P6.out))).then_ hW)).cells
    obtain ⟨eHX40, eHX41, eHX42⟩ := (HX4.out W (P6.out.then_ hW)).cells
    exact ⟨eHX10, eHX11, eHX12, eHX40, eHX41, eHX42, hW⟩
  have hS2 : Hid (∀ W : World, (W.cell? ⟨na, 0, none⟩ = some (.slice y10 gA.1.length k10) ∧ W.cell? ⟨na, 1, none⟩ = some (.slice y11 gA.2.1.length k11) ∧ W.cell? ⟨na, 2, none⟩ = some (.slice y12 gA.2.2.length k12) ∧ W.cell? ⟨nj, 0, none⟩ = some z40 ∧ W.cell? ⟨nj, 1, none⟩ = some z41 ∧ W.cell? ⟨nj, 2, none⟩ = some z42 ∧ Pure v5 W) → Pure v5 W) := fun W h => h.2.2.2.2.2.2
  have hst := hid (hS1.out v5.drew (Below.refl _ _).drew)
  go_wp2_with fail
  go_region_held3 (fun W => W.cell? ⟨na, 0, none⟩ = some (.slice y10 gA.1.length k10) ∧ W.cell? ⟨na, 1, none⟩ = some (.slice y11 gA.2.1.length k11) ∧ W.cell? ⟨na, 2, none⟩ = some (.slice y12 gA.2.2.length k12) ∧ W.cell? ⟨nj, 0, none⟩ = some z40 ∧ W.cell? ⟨nj, 1, none⟩ = some z41 ∧ W.cell? ⟨nj, 2, none⟩ = some z42 ∧ Pure v5 W)
    (first | with_reducible exact hst.out | with_reducible assumption | with_reducible exact hS1.out _ (Pure.then_ (hS2.out _ (by assumption)) (by assumption)))
    ((first
      | (go_at_call 13; ((refine (qa.out _ (hS2.out _ (by assumption))).mono ?_)); rintro e w7 ⟨s0, s1, s2, rfl, h7, hp7, _⟩)
      | (go_at_call 21; ((refine (qs.out _ (hS2.out _ (by assumption)) _ _ _ h7).mono ?_)); rintro e w19 ⟨rfl, hp9⟩)))
  have P7 := hid (show Pure v5 w19 from hS2.out w19 (by assumption))
  clear hst hS1 hS2
  clear h7 hp7 hp9 qa qs
  have qa := hid (fun W (hW : Pure w19 W) => sjoinP (HX5.out W (P7.out.then_ hW)).r (HX1.out W ((P3.out.then_ (P4.out.then_ (P5.out.then_ (P6.out.then_ P7.out)))).then_ hW)).r okR.out okA.out e2.out)
  have qs := hid (fun W (hW : Pure w19 W) s0 s1 s2 (hs : BR3 s0 s1 s2 gR W) => rsameP5 hs (HX5.out W (P7.out.then_ hW)).r)
  unfold BagO at qa
  have hS1 : Hid (∀ W, Pure w19 W → (W.cell? ⟨na, 0, none⟩ = some (.slice y10 gA.1.length k10) ∧ W.cell? ⟨na, 1, none⟩ = some (.slice y11 gA.2.1.length k11) ∧ W.cell? ⟨na, 2, none⟩ = some (.slice y12 gA.2.2.length k12) ∧ W.cell? ⟨ng, 0, none⟩ = some (.slice y50 gR.1.length k50) ∧ W.cell? ⟨ng, 1, none⟩ = some (.slice y51 gR.2.1.length k51) ∧ W.cell? ⟨ng, 2, none⟩ = some (.slice y52 gR.2.2.length k52) ∧ Pure w19 W)) := fun W hW => by
    obtain ⟨eHX10, eHX11, eHX12⟩ := (HX1.out W ((P3.out.then_ (P4.out.then_ (P5.out.then_ (P6.out.then_ P7.out)))).then_ hW)).cells
    obtain ⟨eHX50, eHX51, eHX52⟩ := (HX5.out W (P7.out.then_ hW)).cells
    exact ⟨eHX10, eHX11, eHX12, eHX50, eHX51, eHX52, hW⟩
  have hS2 : Hid (∀ W : World, (W.cell? ⟨na, 0, none⟩ = some (.slice y10 gA.1.length k10) ∧ W.cell? ⟨na, 1, none⟩ = some (.slice y11 gA.2.1.length k11) ∧ W.cell? ⟨na, 2, none⟩ = some (.slice y12 gA.2.2.length k12) ∧ W.cell? ⟨ng, 0, none⟩ = some (.slice y50 gR.1.length k50) ∧ W.cell? ⟨ng, 1, none⟩ = some (.slice y51 gR.2.1.length k51) ∧ W.cell? ⟨ng, 2, none⟩ = some (.slice y52 gR.2.2.length k52) ∧ Pure w19 W) → Pure w19 W) := fun W h => h.2.2.2.2.2.2
  have hst := hid (hS1.out w19.drew (Below.refl _ _).drew)
  go_wp2_with fail
  go_region_held3 (fun W => W.cell? ⟨na, 0, none⟩ = some (.slice y10 gA.1.length k10) ∧ W.cell? ⟨na, 1, none⟩ = some (.slice y11 gA.2.1.length k11) ∧ W.cell? ⟨na, 2, none⟩ = some (.slice y12 gA.2.2.length k12) ∧ W.cell? ⟨ng, 0, none⟩ = some (.slice y50 gR.1.length k50) ∧ W.cell? ⟨ng, 1, none⟩ = some (.slice y51 gR.2.1.length k51) ∧ W.cell? ⟨ng, 2, none⟩ = some (.slice y52 gR.2.2.length k52) ∧ Pure w19 W)
    (first | with_reducible exact hst.out | with_reducible assumption | with_reducible exact hS1.out _ (Pure.then_ (hS2.out _ (by assumption)) (by assumption)))
    ((first
      | (go_at_call 13; ((refine (qa.out _ (hS2.out _ (by assumption))).mono ?_)); rintro e w27 ⟨s0, s1, s2, rfl, h7, hp7, _⟩)
      | (go_at_call 21; ((refine (qs.out _ (hS2.out _ (by assumption)) _ _ _ h7).mono ?_)); rintro e w29 ⟨rfl, hp9⟩)))
  have P8 := hid (show Pure w19 w29 from hS2.out w29 (by assumption))
  clear hst hS1 hS2
  clear h7 hp7 hp9 qa qs
  have hget := hid (sget_any _ _ _ gA (nx, ny) w29 (HX1.out w29 (P3.out.then_ (P4.out.then_ (P5.out.then_ (P6.out.then_ (P7.out.then_ P8.out)))))).r okA.out.r)
  unfold getR at hget
  generalize lget gA.1 (nx, ny) = om at *
  generalize om.getD m0 = mm at *
  obtain ⟨⟨mx, my⟩, mq, mb, mc⟩ := mm
  unfold mv dv at hget
  dsimp only at hget
  obtain ⟨HX1_0, HX1_1, HX1_2⟩ := (HX1.out w29 (P3.out.then_ (P4.out.then_ (P5.out.then_ (P6.out.then_ (P7.out.then_ P8.out)))))).cells
  obtain ⟨HX5_0, HX5_1, HX5_2⟩ := (HX5.out w29 (P7.out.then_ P8.out)).cells
  obtain ⟨HD_0, HD_1⟩ := (HD.out w29 (P5.out.then_ (P6.out.then_ (P7.out.then_ P8.out)))).cells
  go_wp2_with fail
  refine hget.out.mono ?_
  rintro e wq ⟨rfl, hp⟩
  obtain ⟨v6, hv6⟩ : ∃ W, W = wq.alloc (.cells #[.int .i64 mx, .int .i64 my, .string (bs mq), .string (bs mb), .int .i64 mc] 41) := ⟨_, rfl⟩
  clear HX1_0 HX1_1 HX1_2 HX5_0 HX5_1 HX5_2 HD_0 HD_1
  have P9 := hid (show Pure w29 v6 from hp.then_ (by rw [hv6]; exact (Below.refl _ _).alloc (Nat.le_refl _) _))
  clear hp hget
  go_upto_if 54 with fail
  rw [← hv6]
  clear hv6
  go_cut [16] from 19 (fun lv wx => lv = .int .i64 (gA.1.length : Int) ∧ wx = v6)
  case first =>
    cases om with
    | none =>
      have e7 : gR.1.length = gA.1.length := by have := e6.out; simpa using this
      go_wp2
      go_meet
      case rel => exact ⟨by rw [e7], rfl⟩
    | some m =>
      have e7 : gR.1.length + 1 = gA.1.length := by have := e6.out; simpa using this
      have e8 : wrap64 ((gR.1.length : Int) + 1) = (gA.1.length : Int) := by have := hlA.out; unfold wrap64; omega
      go_wp2
      go_meet
      case rel => exact ⟨by first | rw [e8] | (congr 1; omega), rfl⟩
  case rest =>
  obtain ⟨rfl, rfl⟩ := hcut
  obtain ⟨HX1_0, HX1_1, HX1_2⟩ := (HX1.out wc (P3.out.then_ (P4.out.then_ (P5.out.then_ (P6.out.then_ (P7.out.then_ (P8.out.then_ P9.out))))))).cells
  obtain ⟨HX5_0, HX5_1, HX5_2⟩ := (HX5.out wc (P7.out.then_ (P8.out.then_ P9.out))).cells
  go_wp2_with fail
  refine (scoversP (HX5.out wc (P7.out.then_ (P8.out.then_ P9.out))).r (HX1.out wc (P3.out.then_ (P4.out.then_ (P5.out.then_ (P6.out.then_ (P7.out.then_ (P8.out.then_ P9.out))))))).r okR.out okA.out e2.out).mono ?_
  rintro e w40 ⟨rfl, hp⟩
  clear HX1_0 HX1_1 HX1_2 HX5_0 HX5_1 HX5_2
  have P10 := hid (show Pure wc w40 from hp)
  clear hp
  obtain ⟨HX1_0, HX1_1, HX1_2⟩ := (HX1.out w40 (P3.out.then_ (P4.out.then_ (P5.out.then_ (P6.out.then_ (P7.out.then_ (P8.out.then_ (P9.out.then_ P10.out)))))))).cells
  obtain ⟨HX5_0, HX5_1, HX5_2⟩ := (HX5.out w40 (P7.out.then_ (P8.out.then_ (P9.out.then_ P10.out)))).cells
  go_wp2_with fail
  refine (scoversP (HX1.out w40 (P3.out.then_ (P4.out.then_ (P5.out.then_ (P6.out.then_ (P7.out.then_ (P8.out.then_ (P9.out.then_ P10.out)))))))).r (BR3.nil w40) okA.out (BOk.nil _) e3.out).mono ?_
  rintro e w41 ⟨rfl, hp⟩
  clear HX1_0 HX1_1 HX1_2 HX5_0 HX5_1 HX5_2
  have P11 := hid (show Pure w40 w41 from hp)
  clear hp
  obtain ⟨HX1_0, HX1_1, HX1_2⟩ := (HX1.out w41 (P3.out.then_ (P4.out.then_ (P5.out.then_ (P6.out.then_ (P7.out.then_ (P8.out.then_ (P9.out.then_ (P10.out.then_ P11.out))))))))).cells
  obtain ⟨HX5_0, HX5_1, HX5_2⟩ := (HX5.out w41 (P7.out.then_ (P8.out.then_ (P9.out.then_ (P10.out.then_ P11.out))))).cells
  go_wp2_with fail
  refine (scoversP (HX1.out w41 (P3.out.then_ (P4.out.then_ (P5.out.then_ (P6.out.then_ (P7.out.then_ (P8.out.then_ (P9.out.then_ (P10.out.then_ P11.out))))))))).r (HX1.out w41 (P3.out.then_ (P4.out.then_ (P5.out.then_ (P6.out.then_ (P7.out.then_ (P8.out.then_ (P9.out.then_ (P10.out.then_ P11.out))))))))).r okA.out okA.out e4.out).mono ?_
  rintro e w42 ⟨rfl, hp⟩
  clear HX1_0 HX1_1 HX1_2 HX5_0 HX5_1 HX5_2
  have P12 := hid (show Pure w41 w42 from hp)
  clear hp
  go_wp2
  go_ret
  exact ⟨rfl, Hpz.out.then_ (P1.out.then_ (P2.out.then_ (P3.out.then_ (P4.out.then_ (P5.out.then_ (P6.out.then_ (P7.out.then_ (P8.out.then_ (P9.out.then_ (P10.out.then_ (P11.out.then_ P12.out)))))))))))⟩
end Go.Proofs.YtbcbmnifbflmaaaGreat
