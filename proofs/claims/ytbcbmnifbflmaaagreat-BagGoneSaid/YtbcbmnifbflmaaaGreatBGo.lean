/- BagGone. -/
import Derived.Test.YtbcbmnifbflmaaaGreatBL5
namespace Go.Proofs.YtbcbmnifbflmaaaGreat
open Go.RowKit Go.Maps Go.Shelf Go.Sort

abbrev ZM : Obj := .cells #[.int .i64 0, .int .i64 0, .string ⟨#[]⟩, .string ⟨#[]⟩, .int .i64 0] 41
/-- An empty message in a box. -/
def RsM (n : Nat) (W : World) : Prop := W.heap[n]? = some (.cells #[.int .i64 0, .int .i64 0, .string ⟨#[]⟩, .string ⟨#[]⟩, .int .i64 0] 41 (0, 0))
theorem rsm_new (W : World) : RsM W.heap.size (W.alloc ZM) := block_alloc_new _ _
theorem RsM.pure {n : Nat} {W W' : World} (h : RsM n W) (hp : Pure W W') : RsM n W' := (hp.block _ (lt_of_block h)).trans h
theorem RsM.cells {n : Nat} {W : World} (e : RsM n W) : W.cell? ⟨n, 0, none⟩ = some (.int .i64 0) ∧ W.cell? ⟨n, 1, none⟩ = some (.int .i64 0) ∧ W.cell? ⟨n, 2, none⟩ = some (.string ⟨#[]⟩) ∧ W.cell? ⟨n, 3, none⟩ = some (.string ⟨#[]⟩) ∧ W.cell? ⟨n, 4, none⟩ = some (.int .i64 0) ∧ W.frozen? ⟨n, 0, none⟩ = false ∧ W.frozen? ⟨n, 1, none⟩ = false ∧ W.frozen? ⟨n, 2, none⟩ = false ∧ W.frozen? ⟨n, 3, none⟩ = false ∧ W.frozen? ⟨n, 4, none⟩ = false :=
  ⟨cell_of_block e 0, cell_of_block e 1, cell_of_block e 2, cell_of_block e 3, cell_of_block e 4, free_of_block e 0, free_of_block e 1, free_of_block e 2, free_of_block e 3, free_of_block e 4⟩
theorem mset {n : Nat} {W : World} (hz : RsM n W) (x y : Int) (q b : List UInt8) (c : Int) : MX n ((x, y), q, b, c) (((((W.setCell ⟨n, 0, none⟩ (.int .i64 x)).setCell ⟨n, 1, none⟩ (.int .i64 y)).setCell ⟨n, 2, none⟩ (.string (bs q))).setCell ⟨n, 3, none⟩ (.string (bs b))).setCell ⟨n, 4, none⟩ (.int .i64 c)) := ⟨set5 hz _ _ _ _ _⟩
theorem pset5 {n : Nat} {w W : World} (h : Pure w W) (hn : w.heap.size ≤ n) (v0 v1 v2 v3 v4 : Value) : Pure w (((((W.setCell ⟨n, 0, none⟩ v0).setCell ⟨n, 1, none⟩ v1).setCell ⟨n, 2, none⟩ v2).setCell ⟨n, 3, none⟩ v3).setCell ⟨n, 4, none⟩ v4) :=
  pset1 (pset1 (pset1 (pset1 (pset1 h hn _) hn _) hn _) hn _) hn _
theorem sgetP {v0 v1 v2 : Value} {g : Bag} {d : Dot} {w : World} (hr : BR3 v0 v1 v2 g w) (hg : BOk U64 g) {x y : Int} {q b : List UInt8} {c : Int} {o : Bool} (e : (lget g.1 d).getD m0 = ((x, y), q, b, c)) (e2 : (lget g.1 d).isSome = o) :
    Calls Tryz.prog 14 #[.agg #[v0, v1, v2], dv d] w fun e w' => e = .returned (.tuple #[.agg #[.int .i64 x, .int .i64 y, .string (bs q), .string (bs b), .int .i64 c], .bool o]) ∧ Pure w w' := by
  have := sget_any v0 v1 v2 g d w hr hg.r
  unfold getR at this
  rw [e, e2] at this
  exact this
theorem lost {U : List Dot} {a b : Bag} {n : Dot} (ha : BOk U a) (hb : BOk U b) (hU : n ∈ U) (hn : dchk n = true) :
    (lget (bjoin (bjoin (bremove a n) b) a).1 n).isSome = false ∧ (lget (bjoin b (bremove a n)).1 n).isSome = false := by
  have h1 : chas (bremove a n).2.1 (bremove a n).2.2 n = true := by rw [has_remove ha hn]; simp
  have h2 : lget (bremove a n).1 n = none := by rw [lget_remove, if_pos rfl]
  have okr := ha.remove hU
  have h3 := gone_left okr hb h1 h2
  have h4 : chas (bjoin (bremove a n) b).2.1 (bjoin (bremove a n) b).2.2 n = true := by rw [bjoin_has okr hb, h1]; rfl
  rw [gone_left (okr.join hb) ha h4 h3, gone_right hb okr h1 h2]
  exact ⟨rfl, rfl⟩

set_option maxRecDepth 8000 in
set_option maxHeartbeats 2000000 in
theorem gone_walk (a00 a01 a02 a10 a11 a12 : Value) (M0 M1 : List Msg) (G0 G1 : List Bool) (S0 S1 : List Dot) (d : Dot) (w : World) (h0 : PlanV5 w a00 a01 a02 M0 G0 S0) (h1 : PlanV5 w a10 a11 a12 M1 G1 S1) :
    Calls Tryz.prog 3 #[.agg #[a00, a01, a02], .agg #[a10, a11, a12], dv d] w fun e w' => e = .returned (.bool true) ∧ Pure w w' := by
  obtain ⟨wz, hwz, Hpz, hS⟩ := pk2d w a00 a01 a02 a10 a11 a12 d.1 d.2
  have HA := hid (fun W (hW : Pure wz W) => plan5G (h0.pure (Hpz.out.then_ hW)))
  have HB := hid (fun W (hW : Pure wz W) => plan5G (h1.pure (Hpz.out.then_ hW)))
  have HN := hid (fun W => name5_any d W)
  have okA := hid (planB5_ok S0 M0 G0)
  have okB := hid (planB5_ok S1 M1 G1)
  have hnU := hid (pname_mem d)
  have hnC := hid (pname_chk d)
  obtain ⟨dx, dy⟩ := d
  dsimp only at hwz hS
  unfold BagO at HA HB
  generalize planB5 S0 M0 G0 = gA at *
  generalize planB5 S1 M1 G1 = gB at *
  generalize pname (dx, dy) = nn at *
  obtain ⟨nx, ny⟩ := nn
  unfold dv at HN ⊢
  dsimp only at HN ⊢
  clear h0 h1
  go_enter Tryz.func3, Tryz.ntmps3
  go_wp2_with fail
  rw [← hwz]
  clear hwz
  refine (awake5_any wz).mono ?_
  rintro e w1 ⟨rfl, hp⟩
  have P1 := hid (show Pure wz w1 from hp)
  clear hp
  obtain ⟨hS_0, hS_1, hS_2, hS_3, hS_4, hS_5, hS_6, hS_7, hS_8⟩ := (hS.out w1 P1.out)
  go_wp2_with fail
  refine (HA.out w1 P1.out).mono ?_
  rintro e wq ⟨x0, x1, x2, rfl, hr, hp, hf⟩
  have hX := BX.made hr
  obtain ⟨y10, k10, rfl⟩ := hr.1.shape
  obtain ⟨y11, k11, rfl⟩ := hr.2.1.shape
  obtain ⟨y12, k12, rfl⟩ := hr.2.2.shape
  obtain ⟨v1, hv1⟩ : ∃ W, W = wq.alloc (.cells #[.slice y10 gA.1.length k10, .slice y11 gA.2.1.length k11, .slice y12 gA.2.2.length k12] 33) := ⟨_, rfl⟩
  rw [← hv1] at hX
  clear hS_0 hS_1 hS_2 hS_3 hS_4 hS_5 hS_6 hS_7 hS_8
  have P2 := hid (show Pure w1 v1 from hp.then_ (by rw [hv1]; exact (Below.refl _ _).alloc (Nat.le_refl _) _))
  have HX1 := hid (fun W (hW : Pure v1 W) => hX.pure hW)
  have hsz1 := hid (show wq.heap.size < v1.heap.size from by rw [hv1]; simp)
  have hse1 := hid (show v1.heap.size = wq.heap.size + 1 from by rw [hv1]; simp)
  clear hr hp hf hX
  generalize hn1 : wq.heap.size = na at *
  obtain ⟨hS_0, hS_1, hS_2, hS_3, hS_4, hS_5, hS_6, hS_7, hS_8⟩ := (hS.out v1 (P1.out.then_ P2.out))
  obtain ⟨HX1_0, HX1_1, HX1_2⟩ := (HX1.out v1 (Below.refl _ _)).cells
  rw [hv1] at hS_0 hS_1 hS_2 hS_3 hS_4 hS_5 hS_6 hS_7 hS_8 HX1_0 HX1_1 HX1_2
  go_wp2_with fail
  rw [← hv1]
  clear hS_0 hS_1 hS_2 hS_3 hS_4 hS_5 hS_6 hS_7 hS_8 HX1_0 HX1_1 HX1_2
  clear hv1 hn1
  refine (HB.out v1 (P1.out.then_ P2.out)).mono ?_
  rintro e wq ⟨x0, x1, x2, rfl, hr, hp, hf⟩
  have hX := BX.made hr
  obtain ⟨y20, k20, rfl⟩ := hr.1.shape
  obtain ⟨y21, k21, rfl⟩ := hr.2.1.shape
  obtain ⟨y22, k22, rfl⟩ := hr.2.2.shape
  obtain ⟨v2, hv2⟩ : ∃ W, W = wq.alloc (.cells #[.slice y20 gB.1.length k20, .slice y21 gB.2.1.length k21, .slice y22 gB.2.2.length k22] 33) := ⟨_, rfl⟩
  rw [← hv2] at hX
  have P3 := hid (show Pure v1 v2 from hp.then_ (by rw [hv2]; exact (Below.refl _ _).alloc (Nat.le_refl _) _))
  have HX2 := hid (fun W (hW : Pure v2 W) => hX.pure hW)
  have hsz2 := hid (show wq.heap.size < v2.heap.size from by rw [hv2]; simp)
  have hse2 := hid (show v2.heap.size = wq.heap.size + 1 from by rw [hv2]; simp)
  clear hr hp hf hX
  generalize hn2 : wq.heap.size = nb at *
  obtain ⟨hS_0, hS_1, hS_2, hS_3, hS_4, hS_5, hS_6, hS_7, hS_8⟩ := (hS.out v2 (P1.out.then_ (P2.out.then_ P3.out)))
  obtain ⟨HX2_0, HX2_1, HX2_2⟩ := (HX2.out v2 (Below.refl _ _)).cells
  rw [hv2] at hS_0 hS_1 hS_2 hS_3 hS_4 hS_5 hS_6 hS_7 hS_8 HX2_0 HX2_1 HX2_2
  go_wp2_with fail
  rw [← hv2]
  clear hS_0 hS_1 hS_2 hS_3 hS_4 hS_5 hS_6 hS_7 hS_8 HX2_0 HX2_1 HX2_2
  clear hv2 hn2
  refine (HN.out v2).mono ?_
  rintro e wq ⟨rfl, hp⟩
  have hD := DX.made wq nx ny
  obtain ⟨v3, hv3⟩ : ∃ W, W = wq.alloc (.cells #[.int .i64 nx, .int .i64 ny] 28) := ⟨_, rfl⟩
  rw [← hv3] at hD
  have P4 := hid (show Pure v2 v3 from hp.then_ (by rw [hv3]; exact (Below.refl _ _).alloc (Nat.le_refl _) _))
  have HD := hid (fun W (hW : Pure v3 W) => hD.pure hW)
  clear hp hD HN
  generalize hn3 : wq.heap.size = nd at *
  have hrm := hid (fun W (hW : Pure v3 W) => sremove_any _ _ _ gA (nx, ny) U64 W (HX1.out W ((P3.out.then_ P4.out).then_ hW)).r okA.out (by rw [U64_len]; decide) hnC.out)
  have hls := hid (lost okA.out okB.out hnU.out hnC.out)
  have okR := hid (okA.out.remove hnU.out)
  unfold BagT dv at hrm
  dsimp only at hrm
  generalize bremove gA (nx, ny) = gR at *
  have okG := hid (okR.out.join okB.out)
  have okK := hid (okG.out.join okA.out)
  have okL := hid (okB.out.join okR.out)
  have okJ := hid (okA.out.join okB.out)
  have hps := hid (fun m (hm : m ∈ gA.1) => put_stays okA.out okB.out hm)
  obtain ⟨HX1_0, HX1_1, HX1_2⟩ := (HX1.out v3 (P3.out.then_ P4.out)).cells
  obtain ⟨HX2_0, HX2_1, HX2_2⟩ := (HX2.out v3 P4.out).cells
  obtain ⟨HD_0, HD_1⟩ := (HD.out v3 (Below.refl _ _)).cells
  rw [hv3] at HX1_0 HX1_1 HX1_2 HX2_0 HX2_1 HX2_2 HD_0 HD_1
  go_wp2_with fail
  rw [← hv3]
  clear HX1_0 HX1_1 HX1_2 HX2_0 HX2_1 HX2_2 HD_0 HD_1
  clear hv3 hn3
  generalize Value.slice y20 gB.1.length k20 = z20 at *
  generalize Value.slice y21 gB.2.1.length k21 = z21 at *
  generalize Value.slice y22 gB.2.2.length k22 = z22 at *
  clear HA HB hS
  refine (hrm.out v3 (Below.refl _ _)).mono ?_
  rintro e wq ⟨x0, x1, x2, rfl, hr, hp, hf⟩
  have hX := BX.made hr
  obtain ⟨y50, k50, rfl⟩ := hr.1.shape
  obtain ⟨y51, k51, rfl⟩ := hr.2.1.shape
  obtain ⟨y52, k52, rfl⟩ := hr.2.2.shape
  obtain ⟨v5, hv5⟩ : ∃ W, W = wq.alloc (.cells #[.slice y50 gR.1.length k50, .slice y51 gR.2.1.length k51, .slice y52 gR.2.2.length k52] 33) := ⟨_, rfl⟩
  rw [← hv5] at hX
  have P5 := hid (show Pure v3 v5 from hp.then_ (by rw [hv5]; exact (Below.refl _ _).alloc (Nat.le_refl _) _))
  have HX5 := hid (fun W (hW : Pure v5 W) => hX.pure hW)
  have hsz5 := hid (show wq.heap.size < v5.heap.size from by rw [hv5]; simp)
  have hse5 := hid (show v5.heap.size = wq.heap.size + 1 from by rw [hv5]; simp)
  clear hr hp hf hX
  generalize hn5 : wq.heap.size = ng at *
  obtain ⟨HX5_0, HX5_1, HX5_2⟩ := (HX5.out v5 (Below.refl _ _)).cells
  rw [hv5] at HX5_0 HX5_1 HX5_2
  go_upto_region 8 with fail
  rw [← hv5]
  clear HX5_0 HX5_1 HX5_2
  clear hv5 hn5
  generalize Value.slice y50 gR.1.length k50 = z50 at *
  generalize Value.slice y51 gR.2.1.length k51 = z51 at *
  generalize Value.slice y52 gR.2.2.length k52 = z52 at *
  clear hrm
  clear hsz1 hsz2 hsz5
  have qa := hid (fun W (hW : Pure v5 W) => sjoinP (HX5.out W hW).r (HX2.out W ((P4.out.then_ P5.out).then_ hW)).r okR.out okB.out rfl)
  have qb := hid (fun W (hW : Pure v5 W) s0 s1 s2 (hs : BR3 s0 s1 s2 (bjoin gR gB) W) => sjoinP hs (HX1.out W ((P3.out.then_ (P4.out.then_ P5.out)).then_ hW)).r okG.out okA.out rfl)
  unfold BagO at qa qb
  generalize bjoin (bjoin gR gB) gA = gK at *
  generalize bjoin gR gB = gH at *
  go_cut [13] from 25 (fun pv wx => ∃ (nk : Nat) (x0 x1 x2 : Value), pv = .pointer (some ⟨nk, 0, none⟩) ∧ BX nk x0 x1 x2 gK wx ∧ Pure v5 wx)
  case first =>
    obtain ⟨HX1_0, HX1_1, HX1_2⟩ := (HX1.out v5 (P3.out.then_ (P4.out.then_ P5.out))).cells
    obtain ⟨HX2_0, HX2_1, HX2_2⟩ := (HX2.out v5 (P4.out.then_ P5.out)).cells
    obtain ⟨HX5_0, HX5_1, HX5_2⟩ := (HX5.out v5 (Below.refl _ _)).cells
    have hl1 := lt_of_block (HX1.out v5 (P3.out.then_ (P4.out.then_ P5.out))).b
    have hl2 := lt_of_block (HX2.out v5 (P4.out.then_ P5.out)).b
    have hl5 := lt_of_block (HX5.out v5 (Below.refl _ _)).b
    have hS1 : Hid (∀ W, Pure v5 W → (W.cell? ⟨na, 0, none⟩ = some (.slice y10 gA.1.length k10) ∧ W.cell? ⟨na, 1, none⟩ = some (.slice y11 gA.2.1.length k11) ∧ W.cell? ⟨na, 2, none⟩ = some (.slice y12 gA.2.2.length k12) ∧ W.cell? ⟨nb, 0, none⟩ = some z20 ∧ W.cell? ⟨nb, 1, none⟩ = some z21 ∧ W.cell? ⟨nb, 2, none⟩ = some z22 ∧ W.cell? ⟨ng, 0, none⟩ = some z50 ∧ W.cell? ⟨ng, 1, none⟩ = some z51 ∧ W.cell? ⟨ng, 2, none⟩ = some z52 ∧ Pure v5 W)) := fun W hW => by
      obtain ⟨eHX10, eHX11, eHX12⟩ := (HX1.out W ((P3.out.then_ (P4.out.then_ P5.out)).then_ hW)).cells
      obtain ⟨eHX20, eHX21, eHX22⟩ := (HX2.out W ((P4.out.then_ P5.out).then_ hW)).cells
      obtain ⟨eHX50, eHX51, eHX52⟩ := (HX5.out W hW).cells
      exact ⟨eHX10, eHX11, eHX12, eHX20, eHX21, eHX22, eHX50, eHX51, eHX52, hW⟩
    have hS2 : Hid (∀ W : World, (W.cell? ⟨na, 0, none⟩ = some (.slice y10 gA.1.length k10) ∧ W.cell? ⟨na, 1, none⟩ = some (.slice y11 gA.2.1.length k11) ∧ W.cell? ⟨na, 2, none⟩ = some (.slice y12 gA.2.2.length k12) ∧ W.cell? ⟨nb, 0, none⟩ = some z20 ∧ W.cell? ⟨nb, 1, none⟩ = some z21 ∧ W.cell? ⟨nb, 2, none⟩ = some z22 ∧ W.cell? ⟨ng, 0, none⟩ = some z50 ∧ W.cell? ⟨ng, 1, none⟩ = some z51 ∧ W.cell? ⟨ng, 2, none⟩ = some z52 ∧ Pure v5 W) → Pure v5 W) := fun W h => h.2.2.2.2.2.2.2.2.2
    have hst := hid (hS1.out v5.drew (Below.refl _ _).drew)
    have hst2 := hid (fun o => hS1.out (v5.alloc o).drew ((Below.refl _ _).alloc (Nat.le_refl _) o).drew)
    --TICK held
    go_region_held3 (fun W => W.cell? ⟨na, 0, none⟩ = some (.slice y10 gA.1.length k10) ∧ W.cell? ⟨na, 1, none⟩ = some (.slice y11 gA.2.1.length k11) ∧ W.cell? ⟨na, 2, none⟩ = some (.slice y12 gA.2.2.length k12) ∧ W.cell? ⟨nb, 0, none⟩ = some z20 ∧ W.cell? ⟨nb, 1, none⟩ = some z21 ∧ W.cell? ⟨nb, 2, none⟩ = some z22 ∧ W.cell? ⟨ng, 0, none⟩ = some z50 ∧ W.cell? ⟨ng, 1, none⟩ = some z51 ∧ W.cell? ⟨ng, 2, none⟩ = some z52 ∧ Pure v5 W)
      (first | with_reducible exact hst.out | with_reducible assumption | with_reducible exact hst2.out _ | with_reducible exact hS1.out _ (Pure.then_ (hS2.out _ (by assumption)) (by assumption)) | with_reducible exact hS1.out _ (Pure.then_ (hS2.out _ (by assumption)) (pal5 _ _)) | with_reducible exact hS1.out _ (Pure.then_ HPz.out (pal5 _ _)) | with_reducible exact hS1.out _ (psetz5 (hS2.out _ (by assumption)) HL.out _ _ _) | with_reducible exact hS1.out _ (psetz5 (hS2.out _ (by assumption)) HLn.out _ _ _) | fail "KEEP")
      ((first
        | (go_at_call 13; (first | (with_reducible refine (qa.out _ (hS2.out _ (by assumption))).mono ?_)); rintro e w7 ⟨s0, s1, s2, rfl, h7, hp7, _⟩; have HP7 := hid (Pure.then_ (hS2.out _ (by assumption)) hp7))
        | (go_at_call 13; (first | (with_reducible refine (qb.out _ (hS2.out _ (by assumption)) _ _ _ h7).mono ?_) | (with_reducible refine (qb.out _ (hS2.out _ (by assumption)) _ _ _ (h7.pure (pal5 _ _))).mono ?_)); rintro e w9 ⟨v0, v1, v2, rfl, h9, hp9, hf9⟩; have HP9 := hid (Pure.then_ (hS2.out _ (by assumption)) hp9); have HLn := hid HP9.out.size; have HPz := hid HP9.out; obtain ⟨y0, k0, rfl⟩ := h9.1.shape; obtain ⟨y1, k1, rfl⟩ := h9.2.1.shape; obtain ⟨y2, k2, rfl⟩ := h9.2.2.shape; (first | (have hq := (show Pure (w7.alloc ZB5) w9 from hp9); have HZ := hid (RsB.pure5 (rsb5 w7) hq); have HL := hid (show v5.heap.size ≤ w7.heap.size from HP7.out.size); have HE := hid (boxset5 HZ.out h9 hf9 (by simp))) | (have hq := (show Pure (v5.alloc ZB5).drew w7 from hp7); have HZ0 := hid (RsB.pure5 (show RsB v5.heap.size (v5.alloc ZB5).drew from rsb5 v5) hq); have HZ := hid (RsB.pure5 HZ0.out hp9); have HL := hid (Nat.le_refl v5.heap.size); have HE := hid (boxset5 HZ.out h9 hf9 (lt_of_block HZ0.out))) | (have HE := hid (BX.made h9))); (first | (obtain ⟨zz0, zz1, zz2, zz3, zz4, zz5⟩ := HZ.out.cells) | skip))))
    --TICK arms
    all_goals
      have H9 := hid HP9.out
      clear qa qb h7 hp7 h9 hp9 hf9 hst hst2 hS1 hS2
      go_wp2
      go_meet
      (case rel => first | exact ⟨_, _, _, _, rfl, HE.out, psetz5 H9.out HL.out _ _ _⟩ | exact ⟨_, _, _, _, rfl, HE.out, H9.out.then_ (pal5 _ _)⟩)
  case rest =>
  --TICK rest
  obtain ⟨nk, x0, x1, x2, rfl, hX, hpc⟩ := hcut
  obtain ⟨v6, hv6⟩ : ∃ x : World, x = wc := ⟨_, rfl⟩
  subst hv6
  have P6 := hid (show Pure v5 v6 from hpc)
  have HX6 := hid (fun W (hW : Pure v6 W) => hX.pure hW)
  clear hX hpc qa qb
  obtain ⟨⟨⟨mx, my⟩, mq, mb, mc⟩, hmm⟩ : ∃ m : Msg, (lget gK.1 (nx, ny)).getD m0 = m := ⟨_, rfl⟩
  have hget := hid (sgetP (HX6.out v6 (Below.refl _ _)).r okK.out hmm hls.out.1)
  clear hmm
  unfold dv at hget
  dsimp only at hget
  obtain ⟨HX6_0, HX6_1, HX6_2⟩ := (HX6.out v6 (Below.refl _ _)).cells
  obtain ⟨HD_0, HD_1⟩ := (HD.out v6 (P5.out.then_ P6.out)).cells
  go_wp2_with fail
  refine hget.out.mono ?_
  rintro e wq ⟨rfl, hp⟩
  obtain ⟨v7, hv7⟩ : ∃ W, W = wq.alloc (.cells #[.int .i64 mx, .int .i64 my, .string (bs mq), .string (bs mb), .int .i64 mc] 41) := ⟨_, rfl⟩
  clear HX6_0 HX6_1 HX6_2 HD_0 HD_1
  have P7 := hid (show Pure v6 v7 from hp.then_ (by rw [hv7]; exact (Below.refl _ _).alloc (Nat.le_refl _) _))
  clear hp hget
  go_upto_region 10 with fail
  rw [← hv7]
  clear hv7
  obtain ⟨⟨⟨ox, oy⟩, oq, ob, oc⟩, hmm⟩ : ∃ m : Msg, (lget (bjoin gB gR).1 (nx, ny)).getD m0 = m := ⟨_, rfl⟩
  have qa := hid (fun W (hW : Pure v7 W) => sjoinP (HX2.out W ((P4.out.then_ (P5.out.then_ (P6.out.then_ P7.out))).then_ hW)).r (HX5.out W ((P6.out.then_ P7.out).then_ hW)).r okB.out okR.out rfl)
  have qb := hid (fun W s0 s1 s2 (hs : BR3 s0 s1 s2 (bjoin gB gR) W) => sgetP hs okL.out hmm hls.out.2)
  unfold BagO at qa
  unfold dv at qb
  dsimp only at qb
  clear hmm hls
  generalize bjoin gB gR = gM at *
  go_cut [17] from 25 (fun bv wx => bv = .bool false ∧ Pure v7 wx)
  case first =>
    obtain ⟨HX2_0, HX2_1, HX2_2⟩ := (HX2.out v7 (P4.out.then_ (P5.out.then_ (P6.out.then_ P7.out)))).cells
    obtain ⟨HX5_0, HX5_1, HX5_2⟩ := (HX5.out v7 (P6.out.then_ P7.out)).cells
    obtain ⟨HD_0, HD_1⟩ := (HD.out v7 (P5.out.then_ (P6.out.then_ P7.out))).cells
    have hl2 := lt_of_block (HX2.out v7 (P4.out.then_ (P5.out.then_ (P6.out.then_ P7.out)))).b
    have hl3 := lt_of_block (HD.out v7 (P5.out.then_ (P6.out.then_ P7.out))).b
    have hl5 := lt_of_block (HX5.out v7 (P6.out.then_ P7.out)).b
    have hS1 : Hid (∀ W, Pure v7 W → (W.cell? ⟨nb, 0, none⟩ = some z20 ∧ W.cell? ⟨nb, 1, none⟩ = some z21 ∧ W.cell? ⟨nb, 2, none⟩ = some z22 ∧ W.cell? ⟨ng, 0, none⟩ = some z50 ∧ W.cell? ⟨ng, 1, none⟩ = some z51 ∧ W.cell? ⟨ng, 2, none⟩ = some z52 ∧ W.cell? ⟨nd, 0, none⟩ = some (.int .i64 nx) ∧ W.cell? ⟨nd, 1, none⟩ = some (.int .i64 ny) ∧ Pure v7 W)) := fun W hW => by
      obtain ⟨eHX20, eHX21, eHX22⟩ := (HX2.out W ((P4.out.then_ (P5.out.then_ (P6.out.then_ P7.out))).then_ hW)).cells
      obtain ⟨eHX50, eHX51, eHX52⟩ := (HX5.out W ((P6.out.then_ P7.out).then_ hW)).cells
      obtain ⟨eHD0, eHD1⟩ := (HD.out W ((P5.out.then_ (P6.out.then_ P7.out)).then_ hW)).cells
      exact ⟨eHX20, eHX21, eHX22, eHX50, eHX51, eHX52, eHD0, eHD1, hW⟩
    have hS2 : Hid (∀ W : World, (W.cell? ⟨nb, 0, none⟩ = some z20 ∧ W.cell? ⟨nb, 1, none⟩ = some z21 ∧ W.cell? ⟨nb, 2, none⟩ = some z22 ∧ W.cell? ⟨ng, 0, none⟩ = some z50 ∧ W.cell? ⟨ng, 1, none⟩ = some z51 ∧ W.cell? ⟨ng, 2, none⟩ = some z52 ∧ W.cell? ⟨nd, 0, none⟩ = some (.int .i64 nx) ∧ W.cell? ⟨nd, 1, none⟩ = some (.int .i64 ny) ∧ Pure v7 W) → Pure v7 W) := fun W h => h.2.2.2.2.2.2.2.2
    have hst := hid (hS1.out v7.drew (Below.refl _ _).drew)
    have hst2 := hid (fun o => hS1.out (v7.alloc o).drew ((Below.refl _ _).alloc (Nat.le_refl _) o).drew)
    refine wp_region_held_drew (S := (fun W => W.cell? ⟨nb, 0, none⟩ = some z20 ∧ W.cell? ⟨nb, 1, none⟩ = some z21 ∧ W.cell? ⟨nb, 2, none⟩ = some z22 ∧ W.cell? ⟨ng, 0, none⟩ = some z50 ∧ W.cell? ⟨ng, 1, none⟩ = some z51 ∧ W.cell? ⟨ng, 2, none⟩ = some z52 ∧ W.cell? ⟨nd, 0, none⟩ = some (.int .i64 nx) ∧ W.cell? ⟨nd, 1, none⟩ = some (.int .i64 ny) ∧ Pure v7 W)) (by kernel_rfl) ?_ (fun hHeld => ?_)
    · first | with_reducible exact hst.out | with_reducible assumption | with_reducible exact hst2.out _ | with_reducible exact hS1.out _ (Pure.then_ (hS2.out _ (by assumption)) (by assumption)) | with_reducible exact hS1.out _ (Pure.then_ (hS2.out _ (by assumption)) (pal5 _ _)) | with_reducible exact hS1.out _ (Pure.then_ HPz.out (pal5 _ _)) | with_reducible exact hS1.out _ (pset5 (hS2.out _ (by assumption)) HL.out _ _ _ _ _) | with_reducible exact hS1.out _ (pset5 (hS2.out _ (by assumption)) HLn.out _ _ _ _ _) | fail "KEEP"
    refine wpAnyH_take (i := 0) (v := ?_) rfl (by kernel_rfl) (by kernel_rfl) (by kernel_rfl) (fun _ _ _ h => h) (Or.inl ⟨by rfl, ?_⟩) (by assumption) ?_
    rotate_left
    · intro w hSw; (try dsimp only at hSw); (try simp only [List.getElem_toArray, List.getElem_cons_zero]); go_simp; try with_reducible rfl
    try simp only [Act.put, List.setIfInBounds_toArray, List.set_cons_zero, List.set_cons_succ, List.getElem_toArray, List.getElem_cons_zero]
    refine wpAnyH_take (i := 1) (v := ?_) rfl (by kernel_rfl) (by kernel_rfl) (by kernel_rfl) (fun _ _ _ h => h) (Or.inl ⟨by rfl, ?_⟩) (by assumption) ?_
    rotate_left
    · intro w hSw; (try dsimp only at hSw); (try simp only [List.getElem_toArray, List.getElem_cons_succ, List.getElem_cons_zero]); go_simp; try with_reducible rfl
    try simp only [Act.put, List.setIfInBounds_toArray, List.set_cons_zero, List.set_cons_succ, List.getElem_toArray, List.getElem_cons_succ, List.getElem_cons_zero]
    refine wpAnyH_take (i := 3) (v := ?_) rfl (by kernel_rfl) (by kernel_rfl) (by kernel_rfl) (fun _ _ _ h => h) (Or.inl ⟨by rfl, ?_⟩) (by assumption) ?_
    rotate_left
    · intro w hSw; (try dsimp only at hSw); (try simp only [List.getElem_toArray, List.getElem_cons_succ, List.getElem_cons_zero]); go_simp; try with_reducible rfl
    try simp only [Act.put, List.setIfInBounds_toArray, List.set_cons_zero, List.set_cons_succ, List.getElem_toArray, List.getElem_cons_succ, List.getElem_cons_zero]
    refine wpAnyH_ready (rs := [2, 8]) (by kernel_rfl) (by simp) ?_
    refine AllReadyH.cons rfl (fun K hK => ?_) ?_
    (try simp only [List.getElem_toArray, List.getElem_cons_succ, List.getElem_cons_zero])
    go_simp
    go_at_call 13; (first | (with_reducible refine (qa.out _ (hS2.out _ (by assumption))).mono ?_)); rintro e w7 ⟨s0, s1, s2, rfl, h7, hp7, _⟩; have HP7 := hid (Pure.then_ (hS2.out _ (by assumption)) hp7)
    refine hK.out _ _ ?_ (fun hHeld => ?_)
    · first | with_reducible exact hst.out | with_reducible assumption | with_reducible exact hst2.out _ | with_reducible exact hS1.out _ (Pure.then_ (hS2.out _ (by assumption)) (by assumption)) | with_reducible exact hS1.out _ (Pure.then_ (hS2.out _ (by assumption)) (pal5 _ _)) | with_reducible exact hS1.out _ (Pure.then_ HPz.out (pal5 _ _)) | with_reducible exact hS1.out _ (pset5 (hS2.out _ (by assumption)) HL.out _ _ _ _ _) | with_reducible exact hS1.out _ (pset5 (hS2.out _ (by assumption)) HLn.out _ _ _ _ _) | fail "KEEP"
    clear hK K
    try simp only [Act.put, List.setIfInBounds_toArray, List.set_cons_zero, List.set_cons_succ, List.getElem_toArray, List.getElem_cons_succ, List.getElem_cons_zero]
    refine wpAnyH_ready (rs := [4, 8]) (by kernel_rfl) (by simp) ?_
    refine AllReadyH.cons rfl (fun K hK => ?_) ?_
    (try simp only [List.getElem_toArray, List.getElem_cons_succ, List.getElem_cons_zero])
    go_simp
    go_at_call 14; (first | (with_reducible refine (qb.out _ _ _ _ h7).mono ?_) | (with_reducible refine (qb.out _ _ _ _ (h7.pure (pal5 _ _))).mono ?_)); rintro e w9 ⟨rfl, hp9⟩; have HP9 := hid (Pure.then_ (hS2.out _ (by assumption)) hp9); have HLn := hid HP9.out.size; have HPz := hid HP9.out; (first | (have hq := (show Pure (w7.alloc ZM) w9 from hp9); have HZ := hid (RsM.pure (rsm_new w7) hq); have HL := hid (show v7.heap.size ≤ w7.heap.size from HP7.out.size); have HE := hid (mset HZ.out ox oy oq ob oc)) | (have hq := (show Pure (v7.alloc ZM).drew w7 from hp7); have HZ0 := hid (RsM.pure (show RsM v7.heap.size (v7.alloc ZM).drew from rsm_new v7) hq); have HZ := hid (RsM.pure HZ0.out hp9); have HL := hid (Nat.le_refl v7.heap.size); have HE := hid (mset HZ.out ox oy oq ob oc)) | (have HE := hid (MX.made w9 ((ox, oy), oq, ob, oc)))); (first | (obtain ⟨zz0, zz1, zz2, zz3, zz4, zz5, zz6, zz7, zz8, zz9⟩ := HZ.out.cells) | skip)
    refine hK.out _ _ ?_ (fun hHeld => ?_)
    · first | with_reducible exact hst.out | with_reducible assumption | with_reducible exact hst2.out _ | with_reducible exact hS1.out _ (Pure.then_ (hS2.out _ (by assumption)) (by assumption)) | with_reducible exact hS1.out _ (Pure.then_ (hS2.out _ (by assumption)) (pal5 _ _)) | with_reducible exact hS1.out _ (Pure.then_ HPz.out (pal5 _ _)) | with_reducible exact hS1.out _ (pset5 (hS2.out _ (by assumption)) HL.out _ _ _ _ _) | with_reducible exact hS1.out _ (pset5 (hS2.out _ (by assumption)) HLn.out _ _ _ _ _) | fail "KEEP"
    clear hK K
    try simp only [Act.put, List.setIfInBounds_toArray, List.set_cons_zero, List.set_cons_succ, List.getElem_toArray, List.getElem_cons_succ, List.getElem_cons_zero]
    refine wpAnyH_take (i := 5) (v := ?_) rfl (by kernel_rfl) (by kernel_rfl) (by kernel_rfl) (fun _ _ _ h => h) (Or.inl ⟨by rfl, ?_⟩) (by assumption) ?_
    rotate_left
    · intro w hSw; (try dsimp only at hSw); (try simp only [List.getElem_toArray, List.getElem_cons_succ, List.getElem_cons_zero]); go_simp; try with_reducible rfl
    try simp only [Act.put, List.setIfInBounds_toArray, List.set_cons_zero, List.set_cons_succ, List.getElem_toArray, List.getElem_cons_succ, List.getElem_cons_zero]
    refine wpAnyH_take (i := 6) (v := ?_) rfl (by kernel_rfl) (by kernel_rfl) (by kernel_rfl) (fun _ _ _ h => h) (Or.inl ⟨by rfl, ?_⟩) (by assumption) ?_
    rotate_left
    · intro w hSw; (try dsimp only at hSw); (try simp only [List.getElem_toArray, List.getElem_cons_succ, List.getElem_cons_zero]); go_simp; try with_reducible rfl
    try simp only [Act.put, List.setIfInBounds_toArray, List.set_cons_zero, List.set_cons_succ, List.getElem_toArray, List.getElem_cons_succ, List.getElem_cons_zero]
    refine wpAnyH_take (i := 7) (v := ?_) rfl (by kernel_rfl) (by kernel_rfl) (by kernel_rfl) (fun _ _ _ h => h) (Or.inl ⟨by rfl, ?_⟩) (by assumption) ?_
    rotate_left
    · intro w hSw; (try dsimp only at hSw); (try simp only [List.getElem_toArray, List.getElem_cons_succ, List.getElem_cons_zero]); go_simp; try with_reducible rfl
    try simp only [Act.put, List.setIfInBounds_toArray, List.set_cons_zero, List.set_cons_succ, List.getElem_toArray, List.getElem_cons_succ, List.getElem_cons_zero]
    refine wpAnyH_ready (rs := [8]) (by kernel_rfl) (by simp) ?_
    refine AllReadyH.cons rfl (fun K hK => ?_) AllReadyH.nil
    (try simp only [List.getElem_toArray, List.getElem_cons_succ, List.getElem_cons_zero])
    go_simp
    refine hK.out _ _ ?_ (fun hHeld => ?_)
    · first | with_reducible exact hst2.out _ | with_reducible exact hS1.out _ (Pure.then_ (hS2.out _ (by assumption)) (pal5 _ _)) | with_reducible exact hS1.out _ (Pure.then_ HPz.out (pal5 _ _))
    clear hK K
    try simp only [Act.put, List.setIfInBounds_toArray, List.set_cons_zero, List.set_cons_succ, List.getElem_toArray, List.getElem_cons_succ, List.getElem_cons_zero]
    refine wpAnyH_ready (rs := [9]) (by kernel_rfl) (by simp) ?_
    refine AllReadyH.cons rfl (fun K hK => ?_) AllReadyH.nil
    (try simp only [List.getElem_toArray, List.getElem_cons_succ, List.getElem_cons_zero])
    go_simp
    refine hK.out _ _ ?_ (fun hHeld => ?_)
    · first | with_reducible exact hS1.out _ (pset5 (hS2.out _ (by assumption)) HL.out _ _ _ _ _) | with_reducible exact hS1.out _ (pset5 (hS2.out _ (by assumption)) HLn.out _ _ _ _ _) | exact hS1.out _ (Pure.then_ HPz.out (pal5 _ _))
    clear hK K
    try simp only [Act.put, List.getElem_toArray, List.getElem_cons_succ, List.getElem_cons_zero]
    refine wpAnyH_take (i := 10) (v := ?_) rfl (by kernel_rfl) (by kernel_rfl) (by kernel_rfl) (fun _ _ _ h => h) (Or.inl ⟨by rfl, ?_⟩) (by assumption) ?_
    rotate_left
    · intro w hSw; (try dsimp only at hSw); (try simp only [List.getElem_toArray, List.getElem_cons_succ, List.getElem_cons_zero]); go_simp; try with_reducible rfl
    try simp only [Act.put, List.setIfInBounds_toArray, List.set_cons_zero, List.set_cons_succ, List.getElem_toArray, List.getElem_cons_succ, List.getElem_cons_zero]
    refine wpAnyH_done (by kernel_rfl) ?_ _
    rotate_left
    refine AllReadyH.cons rfl (fun K hK => ?_) AllReadyH.nil
    (try simp only [List.getElem_toArray, List.getElem_cons_succ, List.getElem_cons_zero])
    go_simp
    refine hK.out _ _ ?_ (fun hHeld => ?_)
    · first | with_reducible exact hst2.out _ | with_reducible exact hS1.out _ (Pure.then_ (hS2.out _ (by assumption)) (pal5 _ _)) | with_reducible exact hS1.out _ (Pure.then_ HPz.out (pal5 _ _))
    clear hK K
    try simp only [Act.put, List.setIfInBounds_toArray, List.set_cons_zero, List.set_cons_succ, List.getElem_toArray, List.getElem_cons_succ, List.getElem_cons_zero]
    refine wpAnyH_ready (rs := [4]) (by kernel_rfl) (by simp) ?_
    refine AllReadyH.cons rfl (fun K hK => ?_) AllReadyH.nil
    (try simp only [List.getElem_toArray, List.getElem_cons_succ, List.getElem_cons_zero])
    go_simp
    go_at_call 14; (first | (with_reducible refine (qb.out _ _ _ _ h7).mono ?_) | (with_reducible refine (qb.out _ _ _ _ (h7.pure (pal5 _ _))).mono ?_)); rintro e w9 ⟨rfl, hp9⟩; have HP9 := hid (Pure.then_ (hS2.out _ (by assumption)) hp9); have HLn := hid HP9.out.size; have HPz := hid HP9.out; (first | (have hq := (show Pure (w7.alloc ZM) w9 from hp9); have HZ := hid (RsM.pure (rsm_new w7) hq); have HL := hid (show v7.heap.size ≤ w7.heap.size from HP7.out.size); have HE := hid (mset HZ.out ox oy oq ob oc)) | (have hq := (show Pure (v7.alloc ZM).drew w7 from hp7); have HZ0 := hid (RsM.pure (show RsM v7.heap.size (v7.alloc ZM).drew from rsm_new v7) hq); have HZ := hid (RsM.pure HZ0.out hp9); have HL := hid (Nat.le_refl v7.heap.size); have HE := hid (mset HZ.out ox oy oq ob oc)) | (have HE := hid (MX.made w9 ((ox, oy), oq, ob, oc)))); (first | (obtain ⟨zz0, zz1, zz2, zz3, zz4, zz5, zz6, zz7, zz8, zz9⟩ := HZ.out.cells) | skip)
    refine hK.out _ _ ?_ (fun hHeld => ?_)
    · first | with_reducible exact hst.out | with_reducible assumption | with_reducible exact hst2.out _ | with_reducible exact hS1.out _ (Pure.then_ (hS2.out _ (by assumption)) (by assumption)) | with_reducible exact hS1.out _ (Pure.then_ (hS2.out _ (by assumption)) (pal5 _ _)) | with_reducible exact hS1.out _ (Pure.then_ HPz.out (pal5 _ _)) | with_reducible exact hS1.out _ (pset5 (hS2.out _ (by assumption)) HL.out _ _ _ _ _) | with_reducible exact hS1.out _ (pset5 (hS2.out _ (by assumption)) HLn.out _ _ _ _ _) | fail "KEEP"
    clear hK K
    try simp only [Act.put, List.setIfInBounds_toArray, List.set_cons_zero, List.set_cons_succ, List.getElem_toArray, List.getElem_cons_succ, List.getElem_cons_zero]
    refine wpAnyH_take (i := 5) (v := ?_) rfl (by kernel_rfl) (by kernel_rfl) (by kernel_rfl) (fun _ _ _ h => h) (Or.inl ⟨by rfl, ?_⟩) (by assumption) ?_
    rotate_left
    · intro w hSw; (try dsimp only at hSw); (try simp only [List.getElem_toArray, List.getElem_cons_succ, List.getElem_cons_zero]); go_simp; try with_reducible rfl
    try simp only [Act.put, List.setIfInBounds_toArray, List.set_cons_zero, List.set_cons_succ, List.getElem_toArray, List.getElem_cons_succ, List.getElem_cons_zero]
    refine wpAnyH_take (i := 6) (v := ?_) rfl (by kernel_rfl) (by kernel_rfl) (by kernel_rfl) (fun _ _ _ h => h) (Or.inl ⟨by rfl, ?_⟩) (by assumption) ?_
    rotate_left
    · intro w hSw; (try dsimp only at hSw); (try simp only [List.getElem_toArray, List.getElem_cons_succ, List.getElem_cons_zero]); go_simp; try with_reducible rfl
    try simp only [Act.put, List.setIfInBounds_toArray, List.set_cons_zero, List.set_cons_succ, List.getElem_toArray, List.getElem_cons_succ, List.getElem_cons_zero]
    refine wpAnyH_take (i := 7) (v := ?_) rfl (by kernel_rfl) (by kernel_rfl) (by kernel_rfl) (fun _ _ _ h => h) (Or.inl ⟨by rfl, ?_⟩) (by assumption) ?_
    rotate_left
    · intro w hSw; (try dsimp only at hSw); (try simp only [List.getElem_toArray, List.getElem_cons_succ, List.getElem_cons_zero]); go_simp; try with_reducible rfl
    try simp only [Act.put, List.setIfInBounds_toArray, List.set_cons_zero, List.set_cons_succ, List.getElem_toArray, List.getElem_cons_succ, List.getElem_cons_zero]
    refine wpAnyH_ready (rs := [9]) (by kernel_rfl) (by simp) ?_
    refine AllReadyH.cons rfl (fun K hK => ?_) AllReadyH.nil
    (try simp only [List.getElem_toArray, List.getElem_cons_succ, List.getElem_cons_zero])
    go_simp
    refine hK.out _ _ ?_ (fun hHeld => ?_)
    · first | with_reducible exact hS1.out _ (pset5 (hS2.out _ (by assumption)) HL.out _ _ _ _ _) | with_reducible exact hS1.out _ (pset5 (hS2.out _ (by assumption)) HLn.out _ _ _ _ _) | exact hS1.out _ (Pure.then_ HPz.out (pal5 _ _))
    clear hK K
    try simp only [Act.put, List.getElem_toArray, List.getElem_cons_succ, List.getElem_cons_zero]
    refine wpAnyH_take (i := 10) (v := ?_) rfl (by kernel_rfl) (by kernel_rfl) (by kernel_rfl) (fun _ _ _ h => h) (Or.inl ⟨by rfl, ?_⟩) (by assumption) ?_
    rotate_left
    · intro w hSw; (try dsimp only at hSw); (try simp only [List.getElem_toArray, List.getElem_cons_succ, List.getElem_cons_zero]); go_simp; try with_reducible rfl
    try simp only [Act.put, List.setIfInBounds_toArray, List.set_cons_zero, List.set_cons_succ, List.getElem_toArray, List.getElem_cons_succ, List.getElem_cons_zero]
    refine wpAnyH_done (by kernel_rfl) ?_ _
    rotate_left
    refine AllReadyH.cons rfl (fun K hK => ?_) AllReadyH.nil
    (try simp only [List.getElem_toArray, List.getElem_cons_succ, List.getElem_cons_zero])
    go_simp
    refine hK.out _ _ ?_ (fun hHeld => ?_)
    · first | with_reducible exact hst2.out _ | with_reducible exact hS1.out _ (Pure.then_ (hS2.out _ (by assumption)) (pal5 _ _)) | with_reducible exact hS1.out _ (Pure.then_ HPz.out (pal5 _ _))
    clear hK K
    try simp only [Act.put, List.setIfInBounds_toArray, List.set_cons_zero, List.set_cons_succ, List.getElem_toArray, List.getElem_cons_succ, List.getElem_cons_zero]
    refine wpAnyH_ready (rs := [2]) (by kernel_rfl) (by simp) ?_
    refine AllReadyH.cons rfl (fun K hK => ?_) AllReadyH.nil
    (try simp only [List.getElem_toArray, List.getElem_cons_succ, List.getElem_cons_zero])
    go_simp
    go_at_call 13; (first | (with_reducible refine (qa.out _ (hS2.out _ (by assumption))).mono ?_)); rintro e w7 ⟨s0, s1, s2, rfl, h7, hp7, _⟩; have HP7 := hid (Pure.then_ (hS2.out _ (by assumption)) hp7)
    refine hK.out _ _ ?_ (fun hHeld => ?_)
    · first | with_reducible exact hst.out | with_reducible assumption | with_reducible exact hst2.out _ | with_reducible exact hS1.out _ (Pure.then_ (hS2.out _ (by assumption)) (by assumption)) | with_reducible exact hS1.out _ (Pure.then_ (hS2.out _ (by assumption)) (pal5 _ _)) | with_reducible exact hS1.out _ (Pure.then_ HPz.out (pal5 _ _)) | with_reducible exact hS1.out _ (pset5 (hS2.out _ (by assumption)) HL.out _ _ _ _ _) | with_reducible exact hS1.out _ (pset5 (hS2.out _ (by assumption)) HLn.out _ _ _ _ _) | fail "KEEP"
    clear hK K
    try simp only [Act.put, List.setIfInBounds_toArray, List.set_cons_zero, List.set_cons_succ, List.getElem_toArray, List.getElem_cons_succ, List.getElem_cons_zero]
    refine wpAnyH_ready (rs := [4]) (by kernel_rfl) (by simp) ?_
    refine AllReadyH.cons rfl (fun K hK => ?_) AllReadyH.nil
    (try simp only [List.getElem_toArray, List.getElem_cons_succ, List.getElem_cons_zero])
    go_simp
    go_at_call 14; (first | (with_reducible refine (qb.out _ _ _ _ h7).mono ?_) | (with_reducible refine (qb.out _ _ _ _ (h7.pure (pal5 _ _))).mono ?_)); rintro e w9 ⟨rfl, hp9⟩; have HP9 := hid (Pure.then_ (hS2.out _ (by assumption)) hp9); have HLn := hid HP9.out.size; have HPz := hid HP9.out; (first | (have hq := (show Pure (w7.alloc ZM) w9 from hp9); have HZ := hid (RsM.pure (rsm_new w7) hq); have HL := hid (show v7.heap.size ≤ w7.heap.size from HP7.out.size); have HE := hid (mset HZ.out ox oy oq ob oc)) | (have hq := (show Pure (v7.alloc ZM).drew w7 from hp7); have HZ0 := hid (RsM.pure (show RsM v7.heap.size (v7.alloc ZM).drew from rsm_new v7) hq); have HZ := hid (RsM.pure HZ0.out hp9); have HL := hid (Nat.le_refl v7.heap.size); have HE := hid (mset HZ.out ox oy oq ob oc)) | (have HE := hid (MX.made w9 ((ox, oy), oq, ob, oc)))); (first | (obtain ⟨zz0, zz1, zz2, zz3, zz4, zz5, zz6, zz7, zz8, zz9⟩ := HZ.out.cells) | skip)
    refine hK.out _ _ ?_ (fun hHeld => ?_)
    · first | with_reducible exact hst.out | with_reducible assumption | with_reducible exact hst2.out _ | with_reducible exact hS1.out _ (Pure.then_ (hS2.out _ (by assumption)) (by assumption)) | with_reducible exact hS1.out _ (Pure.then_ (hS2.out _ (by assumption)) (pal5 _ _)) | with_reducible exact hS1.out _ (Pure.then_ HPz.out (pal5 _ _)) | with_reducible exact hS1.out _ (pset5 (hS2.out _ (by assumption)) HL.out _ _ _ _ _) | with_reducible exact hS1.out _ (pset5 (hS2.out _ (by assumption)) HLn.out _ _ _ _ _) | fail "KEEP"
    clear hK K
    try simp only [Act.put, List.setIfInBounds_toArray, List.set_cons_zero, List.set_cons_succ, List.getElem_toArray, List.getElem_cons_succ, List.getElem_cons_zero]
    refine wpAnyH_take (i := 5) (v := ?_) rfl (by kernel_rfl) (by kernel_rfl) (by kernel_rfl) (fun _ _ _ h => h) (Or.inl ⟨by rfl, ?_⟩) (by assumption) ?_
    rotate_left
    · intro w hSw; (try dsimp only at hSw); (try simp only [List.getElem_toArray, List.getElem_cons_succ, List.getElem_cons_zero]); go_simp; try with_reducible rfl
    try simp only [Act.put, List.setIfInBounds_toArray, List.set_cons_zero, List.set_cons_succ, List.getElem_toArray, List.getElem_cons_succ, List.getElem_cons_zero]
    refine wpAnyH_take (i := 6) (v := ?_) rfl (by kernel_rfl) (by kernel_rfl) (by kernel_rfl) (fun _ _ _ h => h) (Or.inl ⟨by rfl, ?_⟩) (by assumption) ?_
    rotate_left
    · intro w hSw; (try dsimp only at hSw); (try simp only [List.getElem_toArray, List.getElem_cons_succ, List.getElem_cons_zero]); go_simp; try with_reducible rfl
    try simp only [Act.put, List.setIfInBounds_toArray, List.set_cons_zero, List.set_cons_succ, List.getElem_toArray, List.getElem_cons_succ, List.getElem_cons_zero]
    refine wpAnyH_take (i := 7) (v := ?_) rfl (by kernel_rfl) (by kernel_rfl) (by kernel_rfl) (fun _ _ _ h => h) (Or.inl ⟨by rfl, ?_⟩) (by assumption) ?_
    rotate_left
    · intro w hSw; (try dsimp only at hSw); (try simp only [List.getElem_toArray, List.getElem_cons_succ, List.getElem_cons_zero]); go_simp; try with_reducible rfl
    try simp only [Act.put, List.setIfInBounds_toArray, List.set_cons_zero, List.set_cons_succ, List.getElem_toArray, List.getElem_cons_succ, List.getElem_cons_zero]
    refine wpAnyH_ready (rs := [9]) (by kernel_rfl) (by simp) ?_
    refine AllReadyH.cons rfl (fun K hK => ?_) AllReadyH.nil
    (try simp only [List.getElem_toArray, List.getElem_cons_succ, List.getElem_cons_zero])
    go_simp
    refine hK.out _ _ ?_ (fun hHeld => ?_)
    · first | with_reducible exact hS1.out _ (pset5 (hS2.out _ (by assumption)) HL.out _ _ _ _ _) | with_reducible exact hS1.out _ (pset5 (hS2.out _ (by assumption)) HLn.out _ _ _ _ _) | exact hS1.out _ (Pure.then_ HPz.out (pal5 _ _))
    clear hK K
    try simp only [Act.put, List.getElem_toArray, List.getElem_cons_succ, List.getElem_cons_zero]
    refine wpAnyH_take (i := 10) (v := ?_) rfl (by kernel_rfl) (by kernel_rfl) (by kernel_rfl) (fun _ _ _ h => h) (Or.inl ⟨by rfl, ?_⟩) (by assumption) ?_
    rotate_left
    · intro w hSw; (try dsimp only at hSw); (try simp only [List.getElem_toArray, List.getElem_cons_succ, List.getElem_cons_zero]); go_simp; try with_reducible rfl
    try simp only [Act.put, List.setIfInBounds_toArray, List.set_cons_zero, List.set_cons_succ, List.getElem_toArray, List.getElem_cons_succ, List.getElem_cons_zero]
    refine wpAnyH_done (by kernel_rfl) ?_ _
    --TICK arms
    all_goals
      have H9 := hid HP9.out
      clear qa qb h7 hp7 hp9 hst hst2 hS1 hS2
      go_wp2
      go_meet
      (case rel => first | exact ⟨rfl, pset5 H9.out HL.out _ _ _ _ _⟩ | exact ⟨rfl, H9.out.then_ (pal5 _ _)⟩)
  case rest =>
  --TICK rest
  obtain ⟨rfl, hpc⟩ := hcut
  obtain ⟨v8, hv8⟩ : ∃ x : World, x = wc := ⟨_, rfl⟩
  subst hv8
  have P8 := hid (show Pure v7 v8 from hpc)
  clear hpc qa qb
  have heq := dot_eqIn
  go_wp2_with fail
  go_loopw [18] (fun i wr => ∃ k : Nat, k ≤ gA.1.length ∧ i = .int .i64 k ∧ Pure v8 wr) (fun i _ => gA.1.length - (RowKit.intOf i).toNat)
  case atStart => exact ⟨0, Nat.zero_le _, rfl, Below.refl _ _⟩
  case round =>
    obtain ⟨k, hk, rfl, hp⟩ := hrel
    have P9 := hid (show Pure v8 wr from hp)
    clear hp
    have hlA := hid (show gA.1.length ≤ 64 from by have := okA.out.len; rw [U64_len] at this; exact this)
    have hlA' := hlA.out
    by_cases hlt : k < gA.1.length
    · have hlt' : (k : Int) < (gA.1.length : Int) := by omega
      obtain ⟨bm, om, e, hbm, z0, z1, z2, z3, z4⟩ := Msgs.get (HX1.out wr (P3.out.then_ (P4.out.then_ (P5.out.then_ (P6.out.then_ (P7.out.then_ (P8.out.then_ P9.out))))))).r.1 hlt
      subst e
      have Hps := hid (hps.out _ (mem_get_m hlt))
      generalize gA.1.getD k m0 = m at *
      obtain ⟨⟨zx, zy⟩, zq, zb, zc⟩ := m
      dsimp only at z0 z1 z2 z3 z4
      obtain ⟨HX1_0, HX1_1, HX1_2⟩ := (HX1.out wr (P3.out.then_ (P4.out.then_ (P5.out.then_ (P6.out.then_ (P7.out.then_ (P8.out.then_ P9.out))))))).cells
      obtain ⟨HD_0, HD_1⟩ := (HD.out wr (P5.out.then_ (P6.out.then_ (P7.out.then_ (P8.out.then_ P9.out))))).cells
      have hlD := lt_of_block (HD.out wr (P5.out.then_ (P6.out.then_ (P7.out.then_ (P8.out.then_ P9.out))))).b
      by_cases hx : zx = nx ∧ zy = ny
      · obtain ⟨rfl, rfl⟩ := hx
        have hp := hid (show Pure v8 (wr.alloc (.cells #[.int .i64 zx, .int .i64 zy, .string (bs zq), .string (bs zb), .int .i64 zc] 41)) from P9.out.then_ (pal5 _ _))
        clear hbm
        go_wp2
        go_roundw
        case rel => exact ⟨k + 1, by omega, by go_num, hp.out⟩
        case measure => simp [RowKit.intOf]; omega
      · have hx' : (decide (zx = nx) && decide (zy = ny)) = false := by rw [Bool.and_eq_false_iff, decide_eq_false_iff_not, decide_eq_false_iff_not]; by_cases h1 : zx = nx; exact .inr (fun h2 => hx ⟨h1, h2⟩); exact .inl h1
        obtain ⟨v9, hv9⟩ : ∃ W, W = wr.alloc (.cells #[.int .i64 zx, .int .i64 zy, .string (bs zq), .string (bs zb), .int .i64 zc] 41) := ⟨_, rfl⟩
        have hM9 := MX.made wr ((zx, zy), zq, zb, zc)
        dsimp only at hM9
        rw [← hv9] at hM9
        have P10 := hid (show Pure wr v9 from by rw [hv9]; exact pal5 _ _)
        have HM9 := hid (fun W (hW : Pure v9 W) => hM9.pure hW)
        clear hM9
        generalize hn9 : wr.heap.size = nm at *
        go_upto_region 18 with fail
        rw [← hv9]
        clear hv9 hn9 hx' hbm z0 z1 z2 z3 z4 HX1_0 HX1_1 HX1_2 HD_0 HD_1
        obtain ⟨⟨⟨tx, ty⟩, tq, tb, tc⟩, hmm⟩ : ∃ m : Msg, (lget (bjoin gA gB).1 (zx, zy)).getD m0 = m := ⟨_, rfl⟩
        obtain ⟨th, hth⟩ : ∃ b : Bool, (lget (bjoin gA gB).1 (zx, zy)).isSome = b := ⟨_, rfl⟩
        have Hcnt := hid (show th = true → zc ≤ tc from fun h => by
          have h2 : ∀ x, lget (bjoin gA gB).1 (zx, zy) = some x → zc ≤ x.2.2.2 := Hps.out.2
          cases e : lget (bjoin gA gB).1 (zx, zy) with
          | none => rw [e] at hth; simp at hth; rw [h] at hth; exact absurd hth (by simp)
          | some x =>
            have := h2 x e
            rw [e] at hmm
            simp only [Option.getD_some] at hmm
            subst hmm
            exact this)
        have Hth := hid (show th = (!chas gB.2.1 gB.2.2 (zx, zy) || (lget gB.1 (zx, zy)).isSome) from by rw [← hth]; exact Hps.out.1)
        have qa := hid (fun W (hW : Pure v9 W) => sjoinP (HX1.out W ((P3.out.then_ (P4.out.then_ (P5.out.then_ (P6.out.then_ (P7.out.then_ (P8.out.then_ (P9.out.then_ P10.out))))))).then_ hW)).r (HX2.out W ((P4.out.then_ (P5.out.then_ (P6.out.then_ (P7.out.then_ (P8.out.then_ (P9.out.then_ P10.out)))))).then_ hW)).r okA.out okB.out rfl)
        have qb := hid (fun W s0 s1 s2 (hs : BR3 s0 s1 s2 (bjoin gA gB) W) => sgetP hs okJ.out hmm hth)
        unfold BagO at qa
        unfold dv at qb
        dsimp only at qb
        clear hmm hth Hps
        generalize bjoin gA gB = gJ at *
        go_cut [20, 21] from 63 to 116 (fun pv bv wx => ∃ nt : Nat, pv = .pointer (some ⟨nt, 0, none⟩) ∧ bv = .bool th ∧ MX nt ((tx, ty), tq, tb, tc) wx ∧ Pure v9 wx)
        case first =>
          obtain ⟨HX1_0, HX1_1, HX1_2⟩ := (HX1.out v9 (P3.out.then_ (P4.out.then_ (P5.out.then_ (P6.out.then_ (P7.out.then_ (P8.out.then_ (P9.out.then_ P10.out)))))))).cells
          obtain ⟨HX2_0, HX2_1, HX2_2⟩ := (HX2.out v9 (P4.out.then_ (P5.out.then_ (P6.out.then_ (P7.out.then_ (P8.out.then_ (P9.out.then_ P10.out))))))).cells
          obtain ⟨HM9_0, HM9_1, HM9_2, HM9_3, HM9_4⟩ := (HM9.out v9 (Below.refl _ _)).cells
          have hl1 := lt_of_block (HX1.out v9 (P3.out.then_ (P4.out.then_ (P5.out.then_ (P6.out.then_ (P7.out.then_ (P8.out.then_ (P9.out.then_ P10.out)))))))).b
          have hl2 := lt_of_block (HX2.out v9 (P4.out.then_ (P5.out.then_ (P6.out.then_ (P7.out.then_ (P8.out.then_ (P9.out.then_ P10.out))))))).b
          have hl9 := lt_of_block (HM9.out v9 (Below.refl _ _)).b
          have hS1 : Hid (∀ W, Pure v9 W → (W.cell? ⟨na, 0, none⟩ = some (.slice (some ⟨bm, om, none⟩) gA.1.length k10) ∧ W.cell? ⟨na, 1, none⟩ = some (.slice y11 gA.2.1.length k11) ∧ W.cell? ⟨na, 2, none⟩ = some (.slice y12 gA.2.2.length k12) ∧ W.cell? ⟨nb, 0, none⟩ = some z20 ∧ W.cell? ⟨nb, 1, none⟩ = some z21 ∧ W.cell? ⟨nb, 2, none⟩ = some z22 ∧ W.cell? ⟨nm, 0, none⟩ = some (.int .i64 zx) ∧ W.cell? ⟨nm, 1, none⟩ = some (.int .i64 zy) ∧ W.cell? ⟨nm, 2, none⟩ = some (.string (bs zq)) ∧ W.cell? ⟨nm, 3, none⟩ = some (.string (bs zb)) ∧ W.cell? ⟨nm, 4, none⟩ = some (.int .i64 zc) ∧ Pure v9 W)) := fun W hW => by
            obtain ⟨eHX10, eHX11, eHX12⟩ := (HX1.out W ((P3.out.then_ (P4.out.then_ (P5.out.then_ (P6.out.then_ (P7.out.then_ (P8.out.then_ (P9.out.then_ P10.out))))))).then_ hW)).cells
            obtain ⟨eHX20, eHX21, eHX22⟩ := (HX2.out W ((P4.out.then_ (P5.out.then_ (P6.out.then_ (P7.out.then_ (P8.out.then_ (P9.out.then_ P10.out)))))).then_ hW)).cells
            obtain ⟨eHM90, eHM91, eHM92, eHM93, eHM94⟩ := (HM9.out W hW).cells
            exact ⟨eHX10, eHX11, eHX12, eHX20, eHX21, eHX22, eHM90, eHM91, eHM92, eHM93, eHM94, hW⟩
          have hS2 : Hid (∀ W : World, (W.cell? ⟨na, 0, none⟩ = some (.slice (some ⟨bm, om, none⟩) gA.1.length k10) ∧ W.cell? ⟨na, 1, none⟩ = some (.slice y11 gA.2.1.length k11) ∧ W.cell? ⟨na, 2, none⟩ = some (.slice y12 gA.2.2.length k12) ∧ W.cell? ⟨nb, 0, none⟩ = some z20 ∧ W.cell? ⟨nb, 1, none⟩ = some z21 ∧ W.cell? ⟨nb, 2, none⟩ = some z22 ∧ W.cell? ⟨nm, 0, none⟩ = some (.int .i64 zx) ∧ W.cell? ⟨nm, 1, none⟩ = some (.int .i64 zy) ∧ W.cell? ⟨nm, 2, none⟩ = some (.string (bs zq)) ∧ W.cell? ⟨nm, 3, none⟩ = some (.string (bs zb)) ∧ W.cell? ⟨nm, 4, none⟩ = some (.int .i64 zc) ∧ Pure v9 W) → Pure v9 W) := fun W h => h.2.2.2.2.2.2.2.2.2.2.2
          have hst := hid (hS1.out v9.drew (Below.refl _ _).drew)
          have hst2 := hid (fun o => hS1.out (v9.alloc o).drew ((Below.refl _ _).alloc (Nat.le_refl _) o).drew)
          refine wp_region_held_drew (S := (fun W => W.cell? ⟨na, 0, none⟩ = some (.slice (some ⟨bm, om, none⟩) gA.1.length k10) ∧ W.cell? ⟨na, 1, none⟩ = some (.slice y11 gA.2.1.length k11) ∧ W.cell? ⟨na, 2, none⟩ = some (.slice y12 gA.2.2.length k12) ∧ W.cell? ⟨nb, 0, none⟩ = some z20 ∧ W.cell? ⟨nb, 1, none⟩ = some z21 ∧ W.cell? ⟨nb, 2, none⟩ = some z22 ∧ W.cell? ⟨nm, 0, none⟩ = some (.int .i64 zx) ∧ W.cell? ⟨nm, 1, none⟩ = some (.int .i64 zy) ∧ W.cell? ⟨nm, 2, none⟩ = some (.string (bs zq)) ∧ W.cell? ⟨nm, 3, none⟩ = some (.string (bs zb)) ∧ W.cell? ⟨nm, 4, none⟩ = some (.int .i64 zc) ∧ Pure v9 W)) (by kernel_rfl) ?_ (fun hHeld => ?_)
          · first | with_reducible exact hst.out | with_reducible assumption | with_reducible exact hst2.out _ | with_reducible exact hS1.out _ (Pure.then_ (hS2.out _ (by assumption)) (by assumption)) | with_reducible exact hS1.out _ (Pure.then_ (hS2.out _ (by assumption)) (pal5 _ _)) | with_reducible exact hS1.out _ (Pure.then_ HPz.out (pal5 _ _)) | with_reducible exact hS1.out _ (pset5 (hS2.out _ (by assumption)) HL.out _ _ _ _ _) | with_reducible exact hS1.out _ (pset5 (hS2.out _ (by assumption)) HLn.out _ _ _ _ _) | fail "KEEP"
          refine wpAnyH_take (i := 0) (v := ?_) rfl (by kernel_rfl) (by kernel_rfl) (by kernel_rfl) (fun _ _ _ h => h) (Or.inl ⟨by rfl, ?_⟩) (by assumption) ?_
          rotate_left
          · intro w hSw; (try dsimp only at hSw); (try simp only [List.getElem_toArray, List.getElem_cons_zero]); go_simp; try with_reducible rfl
          try simp only [Act.put, List.setIfInBounds_toArray, List.set_cons_zero, List.set_cons_succ, List.getElem_toArray, List.getElem_cons_zero]
          refine wpAnyH_take (i := 1) (v := ?_) rfl (by kernel_rfl) (by kernel_rfl) (by kernel_rfl) (fun _ _ _ h => h) (Or.inl ⟨by rfl, ?_⟩) (by assumption) ?_
          rotate_left
          · intro w hSw; (try dsimp only at hSw); (try simp only [List.getElem_toArray, List.getElem_cons_succ, List.getElem_cons_zero]); go_simp; try with_reducible rfl
          try simp only [Act.put, List.setIfInBounds_toArray, List.set_cons_zero, List.set_cons_succ, List.getElem_toArray, List.getElem_cons_succ, List.getElem_cons_zero]
          refine wpAnyH_take (i := 3) (v := ?_) rfl (by kernel_rfl) (by kernel_rfl) (by kernel_rfl) (fun _ _ _ h => h) (Or.inl ⟨by rfl, ?_⟩) (by assumption) ?_
          rotate_left
          · intro w hSw; (try dsimp only at hSw); (try simp only [List.getElem_toArray, List.getElem_cons_succ, List.getElem_cons_zero]); go_simp; try with_reducible rfl
          try simp only [Act.put, List.setIfInBounds_toArray, List.set_cons_zero, List.set_cons_succ, List.getElem_toArray, List.getElem_cons_succ, List.getElem_cons_zero]
          refine wpAnyH_take (i := 4) (v := ?_) rfl (by kernel_rfl) (by kernel_rfl) (by kernel_rfl) (fun _ _ _ h => h) (Or.inl ⟨by rfl, ?_⟩) (by assumption) ?_
          rotate_left
          · intro w hSw; (try dsimp only at hSw); (try simp only [List.getElem_toArray, List.getElem_cons_succ, List.getElem_cons_zero]); go_simp; try with_reducible rfl
          try simp only [Act.put, List.setIfInBounds_toArray, List.set_cons_zero, List.set_cons_succ, List.getElem_toArray, List.getElem_cons_succ, List.getElem_cons_zero]
          refine wpAnyH_ready (rs := [2, 9]) (by kernel_rfl) (by simp) ?_
          refine AllReadyH.cons rfl (fun K hK => ?_) ?_
          (try simp only [List.getElem_toArray, List.getElem_cons_succ, List.getElem_cons_zero])
          go_simp
          go_at_call 13; (first | (with_reducible refine (qa.out _ (hS2.out _ (by assumption))).mono ?_)); rintro e w7 ⟨s0, s1, s2, rfl, h7, hp7, _⟩; have HP7 := hid (Pure.then_ (hS2.out _ (by assumption)) hp7)
          refine hK.out _ _ ?_ (fun hHeld => ?_)
          · first | with_reducible exact hst.out | with_reducible assumption | with_reducible exact hst2.out _ | with_reducible exact hS1.out _ (Pure.then_ (hS2.out _ (by assumption)) (by assumption)) | with_reducible exact hS1.out _ (Pure.then_ (hS2.out _ (by assumption)) (pal5 _ _)) | with_reducible exact hS1.out _ (Pure.then_ HPz.out (pal5 _ _)) | with_reducible exact hS1.out _ (pset5 (hS2.out _ (by assumption)) HL.out _ _ _ _ _) | with_reducible exact hS1.out _ (pset5 (hS2.out _ (by assumption)) HLn.out _ _ _ _ _) | fail "KEEP"
          clear hK K
          try simp only [Act.put, List.setIfInBounds_toArray, List.set_cons_zero, List.set_cons_succ, List.getElem_toArray, List.getElem_cons_succ, List.getElem_cons_zero]
          refine wpAnyH_ready (rs := [5, 9]) (by kernel_rfl) (by simp) ?_
          refine AllReadyH.cons rfl (fun K hK => ?_) ?_
          (try simp only [List.getElem_toArray, List.getElem_cons_succ, List.getElem_cons_zero])
          go_simp
          go_at_call 14; (first | (with_reducible refine (qb.out _ _ _ _ h7).mono ?_) | (with_reducible refine (qb.out _ _ _ _ (h7.pure (pal5 _ _))).mono ?_)); rintro e w9 ⟨rfl, hp9⟩; have HP9 := hid (Pure.then_ (hS2.out _ (by assumption)) hp9); have HLn := hid HP9.out.size; have HPz := hid HP9.out; (first | (have hq := (show Pure (w7.alloc ZM) w9 from hp9); have HZ := hid (RsM.pure (rsm_new w7) hq); have HL := hid (show v9.heap.size ≤ w7.heap.size from HP7.out.size); have HE := hid (mset HZ.out tx ty tq tb tc)) | (have hq := (show Pure (v9.alloc ZM).drew w7 from hp7); have HZ0 := hid (RsM.pure (show RsM v9.heap.size (v9.alloc ZM).drew from rsm_new v9) hq); have HZ := hid (RsM.pure HZ0.out hp9); have HL := hid (Nat.le_refl v9.heap.size); have HE := hid (mset HZ.out tx ty tq tb tc)) | (have HE := hid (MX.made w9 ((tx, ty), tq, tb, tc)))); (first | (obtain ⟨zz0, zz1, zz2, zz3, zz4, zz5, zz6, zz7, zz8, zz9⟩ := HZ.out.cells) | skip)
          refine hK.out _ _ ?_ (fun hHeld => ?_)
          · first | with_reducible exact hst.out | with_reducible assumption | with_reducible exact hst2.out _ | with_reducible exact hS1.out _ (Pure.then_ (hS2.out _ (by assumption)) (by assumption)) | with_reducible exact hS1.out _ (Pure.then_ (hS2.out _ (by assumption)) (pal5 _ _)) | with_reducible exact hS1.out _ (Pure.then_ HPz.out (pal5 _ _)) | with_reducible exact hS1.out _ (pset5 (hS2.out _ (by assumption)) HL.out _ _ _ _ _) | with_reducible exact hS1.out _ (pset5 (hS2.out _ (by assumption)) HLn.out _ _ _ _ _) | fail "KEEP"
          clear hK K
          try simp only [Act.put, List.setIfInBounds_toArray, List.set_cons_zero, List.set_cons_succ, List.getElem_toArray, List.getElem_cons_succ, List.getElem_cons_zero]
          refine wpAnyH_take (i := 6) (v := ?_) rfl (by kernel_rfl) (by kernel_rfl) (by kernel_rfl) (fun _ _ _ h => h) (Or.inl ⟨by rfl, ?_⟩) (by assumption) ?_
          rotate_left
          · intro w hSw; (try dsimp only at hSw); (try simp only [List.getElem_toArray, List.getElem_cons_succ, List.getElem_cons_zero]); go_simp; try with_reducible rfl
          try simp only [Act.put, List.setIfInBounds_toArray, List.set_cons_zero, List.set_cons_succ, List.getElem_toArray, List.getElem_cons_succ, List.getElem_cons_zero]
          refine wpAnyH_take (i := 7) (v := ?_) rfl (by kernel_rfl) (by kernel_rfl) (by kernel_rfl) (fun _ _ _ h => h) (Or.inl ⟨by rfl, ?_⟩) (by assumption) ?_
          rotate_left
          · intro w hSw; (try dsimp only at hSw); (try simp only [List.getElem_toArray, List.getElem_cons_succ, List.getElem_cons_zero]); go_simp; try with_reducible rfl
          try simp only [Act.put, List.setIfInBounds_toArray, List.set_cons_zero, List.set_cons_succ, List.getElem_toArray, List.getElem_cons_succ, List.getElem_cons_zero]
          refine wpAnyH_take (i := 8) (v := ?_) rfl (by kernel_rfl) (by kernel_rfl) (by kernel_rfl) (fun _ _ _ h => h) (Or.inl ⟨by rfl, ?_⟩) (by assumption) ?_
          rotate_left
          · intro w hSw; (try dsimp only at hSw); (try simp only [List.getElem_toArray, List.getElem_cons_succ, List.getElem_cons_zero]); go_simp; try with_reducible rfl
          try simp only [Act.put, List.setIfInBounds_toArray, List.set_cons_zero, List.set_cons_succ, List.getElem_toArray, List.getElem_cons_succ, List.getElem_cons_zero]
          refine wpAnyH_ready (rs := [9]) (by kernel_rfl) (by simp) ?_
          refine AllReadyH.cons rfl (fun K hK => ?_) AllReadyH.nil
          (try simp only [List.getElem_toArray, List.getElem_cons_succ, List.getElem_cons_zero])
          go_simp
          refine hK.out _ _ ?_ (fun hHeld => ?_)
          · first | with_reducible exact hst2.out _ | with_reducible exact hS1.out _ (Pure.then_ (hS2.out _ (by assumption)) (pal5 _ _)) | with_reducible exact hS1.out _ (Pure.then_ HPz.out (pal5 _ _))
          clear hK K
          try simp only [Act.put, List.setIfInBounds_toArray, List.set_cons_zero, List.set_cons_succ, List.getElem_toArray, List.getElem_cons_succ, List.getElem_cons_zero]
          refine wpAnyH_ready (rs := [10]) (by kernel_rfl) (by simp) ?_
          refine AllReadyH.cons rfl (fun K hK => ?_) AllReadyH.nil
          (try simp only [List.getElem_toArray, List.getElem_cons_succ, List.getElem_cons_zero])
          go_simp
          refine hK.out _ _ ?_ (fun hHeld => ?_)
          · first | with_reducible exact hS1.out _ (pset5 (hS2.out _ (by assumption)) HL.out _ _ _ _ _) | with_reducible exact hS1.out _ (pset5 (hS2.out _ (by assumption)) HLn.out _ _ _ _ _) | exact hS1.out _ (Pure.then_ HPz.out (pal5 _ _))
          clear hK K
          try simp only [Act.put, List.getElem_toArray, List.getElem_cons_succ, List.getElem_cons_zero]
          refine wpAnyH_take (i := 11) (v := ?_) rfl (by kernel_rfl) (by kernel_rfl) (by kernel_rfl) (fun _ _ _ h => h) (Or.inl ⟨by rfl, ?_⟩) (by assumption) ?_
          rotate_left
          · intro w hSw; (try dsimp only at hSw); (try simp only [List.getElem_toArray, List.getElem_cons_succ, List.getElem_cons_zero]); go_simp; try with_reducible rfl
          try simp only [Act.put, List.setIfInBounds_toArray, List.set_cons_zero, List.set_cons_succ, List.getElem_toArray, List.getElem_cons_succ, List.getElem_cons_zero]
          refine wpAnyH_done (by kernel_rfl) ?_ _
          rotate_left
          refine AllReadyH.cons rfl (fun K hK => ?_) AllReadyH.nil
          (try simp only [List.getElem_toArray, List.getElem_cons_succ, List.getElem_cons_zero])
          go_simp
          refine hK.out _ _ ?_ (fun hHeld => ?_)
          · first | with_reducible exact hst2.out _ | with_reducible exact hS1.out _ (Pure.then_ (hS2.out _ (by assumption)) (pal5 _ _)) | with_reducible exact hS1.out _ (Pure.then_ HPz.out (pal5 _ _))
          clear hK K
          try simp only [Act.put, List.setIfInBounds_toArray, List.set_cons_zero, List.set_cons_succ, List.getElem_toArray, List.getElem_cons_succ, List.getElem_cons_zero]
          refine wpAnyH_ready (rs := [5]) (by kernel_rfl) (by simp) ?_
          refine AllReadyH.cons rfl (fun K hK => ?_) AllReadyH.nil
          (try simp only [List.getElem_toArray, List.getElem_cons_succ, List.getElem_cons_zero])
          go_simp
          go_at_call 14; (first | (with_reducible refine (qb.out _ _ _ _ h7).mono ?_) | (with_reducible refine (qb.out _ _ _ _ (h7.pure (pal5 _ _))).mono ?_)); rintro e w9 ⟨rfl, hp9⟩; have HP9 := hid (Pure.then_ (hS2.out _ (by assumption)) hp9); have HLn := hid HP9.out.size; have HPz := hid HP9.out; (first | (have hq := (show Pure (w7.alloc ZM) w9 from hp9); have HZ := hid (RsM.pure (rsm_new w7) hq); have HL := hid (show v9.heap.size ≤ w7.heap.size from HP7.out.size); have HE := hid (mset HZ.out tx ty tq tb tc)) | (have hq := (show Pure (v9.alloc ZM).drew w7 from hp7); have HZ0 := hid (RsM.pure (show RsM v9.heap.size (v9.alloc ZM).drew from rsm_new v9) hq); have HZ := hid (RsM.pure HZ0.out hp9); have HL := hid (Nat.le_refl v9.heap.size); have HE := hid (mset HZ.out tx ty tq tb tc)) | (have HE := hid (MX.made w9 ((tx, ty), tq, tb, tc)))); (first | (obtain ⟨zz0, zz1, zz2, zz3, zz4, zz5, zz6, zz7, zz8, zz9⟩ := HZ.out.cells) | skip)
          refine hK.out _ _ ?_ (fun hHeld => ?_)
          · first | with_reducible exact hst.out | with_reducible assumption | with_reducible exact hst2.out _ | with_reducible exact hS1.out _ (Pure.then_ (hS2.out _ (by assumption)) (by assumption)) | with_reducible exact hS1.out _ (Pure.then_ (hS2.out _ (by assumption)) (pal5 _ _)) | with_reducible exact hS1.out _ (Pure.then_ HPz.out (pal5 _ _)) | with_reducible exact hS1.out _ (pset5 (hS2.out _ (by assumption)) HL.out _ _ _ _ _) | with_reducible exact hS1.out _ (pset5 (hS2.out _ (by assumption)) HLn.out _ _ _ _ _) | fail "KEEP"
          clear hK K
          try simp only [Act.put, List.setIfInBounds_toArray, List.set_cons_zero, List.set_cons_succ, List.getElem_toArray, List.getElem_cons_succ, List.getElem_cons_zero]
          refine wpAnyH_take (i := 6) (v := ?_) rfl (by kernel_rfl) (by kernel_rfl) (by kernel_rfl) (fun _ _ _ h => h) (Or.inl ⟨by rfl, ?_⟩) (by assumption) ?_
          rotate_left
          · intro w hSw; (try dsimp only at hSw); (try simp only [List.getElem_toArray, List.getElem_cons_succ, List.getElem_cons_zero]); go_simp; try with_reducible rfl
          try simp only [Act.put, List.setIfInBounds_toArray, List.set_cons_zero, List.set_cons_succ, List.getElem_toArray, List.getElem_cons_succ, List.getElem_cons_zero]
          refine wpAnyH_take (i := 7) (v := ?_) rfl (by kernel_rfl) (by kernel_rfl) (by kernel_rfl) (fun _ _ _ h => h) (Or.inl ⟨by rfl, ?_⟩) (by assumption) ?_
          rotate_left
          · intro w hSw; (try dsimp only at hSw); (try simp only [List.getElem_toArray, List.getElem_cons_succ, List.getElem_cons_zero]); go_simp; try with_reducible rfl
          try simp only [Act.put, List.setIfInBounds_toArray, List.set_cons_zero, List.set_cons_succ, List.getElem_toArray, List.getElem_cons_succ, List.getElem_cons_zero]
          refine wpAnyH_take (i := 8) (v := ?_) rfl (by kernel_rfl) (by kernel_rfl) (by kernel_rfl) (fun _ _ _ h => h) (Or.inl ⟨by rfl, ?_⟩) (by assumption) ?_
          rotate_left
          · intro w hSw; (try dsimp only at hSw); (try simp only [List.getElem_toArray, List.getElem_cons_succ, List.getElem_cons_zero]); go_simp; try with_reducible rfl
          try simp only [Act.put, List.setIfInBounds_toArray, List.set_cons_zero, List.set_cons_succ, List.getElem_toArray, List.getElem_cons_succ, List.getElem_cons_zero]
          refine wpAnyH_ready (rs := [10]) (by kernel_rfl) (by simp) ?_
          refine AllReadyH.cons rfl (fun K hK => ?_) AllReadyH.nil
          (try simp only [List.getElem_toArray, List.getElem_cons_succ, List.getElem_cons_zero])
          go_simp
          refine hK.out _ _ ?_ (fun hHeld => ?_)
          · first | with_reducible exact hS1.out _ (pset5 (hS2.out _ (by assumption)) HL.out _ _ _ _ _) | with_reducible exact hS1.out _ (pset5 (hS2.out _ (by assumption)) HLn.out _ _ _ _ _) | exact hS1.out _ (Pure.then_ HPz.out (pal5 _ _))
          clear hK K
          try simp only [Act.put, List.getElem_toArray, List.getElem_cons_succ, List.getElem_cons_zero]
          refine wpAnyH_take (i := 11) (v := ?_) rfl (by kernel_rfl) (by kernel_rfl) (by kernel_rfl) (fun _ _ _ h => h) (Or.inl ⟨by rfl, ?_⟩) (by assumption) ?_
          rotate_left
          · intro w hSw; (try dsimp only at hSw); (try simp only [List.getElem_toArray, List.getElem_cons_succ, List.getElem_cons_zero]); go_simp; try with_reducible rfl
          try simp only [Act.put, List.setIfInBounds_toArray, List.set_cons_zero, List.set_cons_succ, List.getElem_toArray, List.getElem_cons_succ, List.getElem_cons_zero]
          refine wpAnyH_done (by kernel_rfl) ?_ _
          rotate_left
          refine AllReadyH.cons rfl (fun K hK => ?_) AllReadyH.nil
          (try simp only [List.getElem_toArray, List.getElem_cons_succ, List.getElem_cons_zero])
          go_simp
          refine hK.out _ _ ?_ (fun hHeld => ?_)
          · first | with_reducible exact hst2.out _ | with_reducible exact hS1.out _ (Pure.then_ (hS2.out _ (by assumption)) (pal5 _ _)) | with_reducible exact hS1.out _ (Pure.then_ HPz.out (pal5 _ _))
          clear hK K
          try simp only [Act.put, List.setIfInBounds_toArray, List.set_cons_zero, List.set_cons_succ, List.getElem_toArray, List.getElem_cons_succ, List.getElem_cons_zero]
          refine wpAnyH_ready (rs := [2]) (by kernel_rfl) (by simp) ?_
          refine AllReadyH.cons rfl (fun K hK => ?_) AllReadyH.nil
          (try simp only [List.getElem_toArray, List.getElem_cons_succ, List.getElem_cons_zero])
          go_simp
          go_at_call 13; (first | (with_reducible refine (qa.out _ (hS2.out _ (by assumption))).mono ?_)); rintro e w7 ⟨s0, s1, s2, rfl, h7, hp7, _⟩; have HP7 := hid (Pure.then_ (hS2.out _ (by assumption)) hp7)
          refine hK.out _ _ ?_ (fun hHeld => ?_)
          · first | with_reducible exact hst.out | with_reducible assumption | with_reducible exact hst2.out _ | with_reducible exact hS1.out _ (Pure.then_ (hS2.out _ (by assumption)) (by assumption)) | with_reducible exact hS1.out _ (Pure.then_ (hS2.out _ (by assumption)) (pal5 _ _)) | with_reducible exact hS1.out _ (Pure.then_ HPz.out (pal5 _ _)) | with_reducible exact hS1.out _ (pset5 (hS2.out _ (by assumption)) HL.out _ _ _ _ _) | with_reducible exact hS1.out _ (pset5 (hS2.out _ (by assumption)) HLn.out _ _ _ _ _) | fail "KEEP"
          clear hK K
          try simp only [Act.put, List.setIfInBounds_toArray, List.set_cons_zero, List.set_cons_succ, List.getElem_toArray, List.getElem_cons_succ, List.getElem_cons_zero]
          refine wpAnyH_ready (rs := [5]) (by kernel_rfl) (by simp) ?_
          refine AllReadyH.cons rfl (fun K hK => ?_) AllReadyH.nil
          (try simp only [List.getElem_toArray, List.getElem_cons_succ, List.getElem_cons_zero])
          go_simp
          go_at_call 14; (first | (with_reducible refine (qb.out _ _ _ _ h7).mono ?_) | (with_reducible refine (qb.out _ _ _ _ (h7.pure (pal5 _ _))).mono ?_)); rintro e w9 ⟨rfl, hp9⟩; have HP9 := hid (Pure.then_ (hS2.out _ (by assumption)) hp9); have HLn := hid HP9.out.size; have HPz := hid HP9.out; (first | (have hq := (show Pure (w7.alloc ZM) w9 from hp9); have HZ := hid (RsM.pure (rsm_new w7) hq); have HL := hid (show v9.heap.size ≤ w7.heap.size from HP7.out.size); have HE := hid (mset HZ.out tx ty tq tb tc)) | (have hq := (show Pure (v9.alloc ZM).drew w7 from hp7); have HZ0 := hid (RsM.pure (show RsM v9.heap.size (v9.alloc ZM).drew from rsm_new v9) hq); have HZ := hid (RsM.pure HZ0.out hp9); have HL := hid (Nat.le_refl v9.heap.size); have HE := hid (mset HZ.out tx ty tq tb tc)) | (have HE := hid (MX.made w9 ((tx, ty), tq, tb, tc)))); (first | (obtain ⟨zz0, zz1, zz2, zz3, zz4, zz5, zz6, zz7, zz8, zz9⟩ := HZ.out.cells) | skip)
          refine hK.out _ _ ?_ (fun hHeld => ?_)
          · first | with_reducible exact hst.out | with_reducible assumption | with_reducible exact hst2.out _ | with_reducible exact hS1.out _ (Pure.then_ (hS2.out _ (by assumption)) (by assumption)) | with_reducible exact hS1.out _ (Pure.then_ (hS2.out _ (by assumption)) (pal5 _ _)) | with_reducible exact hS1.out _ (Pure.then_ HPz.out (pal5 _ _)) | with_reducible exact hS1.out _ (pset5 (hS2.out _ (by assumption)) HL.out _ _ _ _ _) | with_reducible exact hS1.out _ (pset5 (hS2.out _ (by assumption)) HLn.out _ _ _ _ _) | fail "KEEP"
          clear hK K
          try simp only [Act.put, List.setIfInBounds_toArray, List.set_cons_zero, List.set_cons_succ, List.getElem_toArray, List.getElem_cons_succ, List.getElem_cons_zero]
          refine wpAnyH_take (i := 6) (v := ?_) rfl (by kernel_rfl) (by kernel_rfl) (by kernel_rfl) (fun _ _ _ h => h) (Or.inl ⟨by rfl, ?_⟩) (by assumption) ?_
          rotate_left
          · intro w hSw; (try dsimp only at hSw); (try simp only [List.getElem_toArray, List.getElem_cons_succ, List.getElem_cons_zero]); go_simp; try with_reducible rfl
          try simp only [Act.put, List.setIfInBounds_toArray, List.set_cons_zero, List.set_cons_succ, List.getElem_toArray, List.getElem_cons_succ, List.getElem_cons_zero]
          refine wpAnyH_take (i := 7) (v := ?_) rfl (by kernel_rfl) (by kernel_rfl) (by kernel_rfl) (fun _ _ _ h => h) (Or.inl ⟨by rfl, ?_⟩) (by assumption) ?_
          rotate_left
          · intro w hSw; (try dsimp only at hSw); (try simp only [List.getElem_toArray, List.getElem_cons_succ, List.getElem_cons_zero]); go_simp; try with_reducible rfl
          try simp only [Act.put, List.setIfInBounds_toArray, List.set_cons_zero, List.set_cons_succ, List.getElem_toArray, List.getElem_cons_succ, List.getElem_cons_zero]
          refine wpAnyH_take (i := 8) (v := ?_) rfl (by kernel_rfl) (by kernel_rfl) (by kernel_rfl) (fun _ _ _ h => h) (Or.inl ⟨by rfl, ?_⟩) (by assumption) ?_
          rotate_left
          · intro w hSw; (try dsimp only at hSw); (try simp only [List.getElem_toArray, List.getElem_cons_succ, List.getElem_cons_zero]); go_simp; try with_reducible rfl
          try simp only [Act.put, List.setIfInBounds_toArray, List.set_cons_zero, List.set_cons_succ, List.getElem_toArray, List.getElem_cons_succ, List.getElem_cons_zero]
          refine wpAnyH_ready (rs := [10]) (by kernel_rfl) (by simp) ?_
          refine AllReadyH.cons rfl (fun K hK => ?_) AllReadyH.nil
          (try simp only [List.getElem_toArray, List.getElem_cons_succ, List.getElem_cons_zero])
          go_simp
          refine hK.out _ _ ?_ (fun hHeld => ?_)
          · first | with_reducible exact hS1.out _ (pset5 (hS2.out _ (by assumption)) HL.out _ _ _ _ _) | with_reducible exact hS1.out _ (pset5 (hS2.out _ (by assumption)) HLn.out _ _ _ _ _) | exact hS1.out _ (Pure.then_ HPz.out (pal5 _ _))
          clear hK K
          try simp only [Act.put, List.getElem_toArray, List.getElem_cons_succ, List.getElem_cons_zero]
          refine wpAnyH_take (i := 11) (v := ?_) rfl (by kernel_rfl) (by kernel_rfl) (by kernel_rfl) (fun _ _ _ h => h) (Or.inl ⟨by rfl, ?_⟩) (by assumption) ?_
          rotate_left
          · intro w hSw; (try dsimp only at hSw); (try simp only [List.getElem_toArray, List.getElem_cons_succ, List.getElem_cons_zero]); go_simp; try with_reducible rfl
          try simp only [Act.put, List.setIfInBounds_toArray, List.set_cons_zero, List.set_cons_succ, List.getElem_toArray, List.getElem_cons_succ, List.getElem_cons_zero]
          refine wpAnyH_done (by kernel_rfl) ?_ _
          --TICK arms
          all_goals
            have H9 := hid HP9.out
            clear qa qb h7 hp7 hp9 hst hst2 hS1 hS2
            go_wp2
            go_meet
            (case rel => first | exact ⟨_, rfl, rfl, HE.out, pset5 H9.out HL.out _ _ _ _ _⟩ | exact ⟨_, rfl, rfl, HE.out, H9.out.then_ (pal5 _ _)⟩)
        case rest =>
        --TICK rest
        obtain ⟨nt, rfl, rfl, hT, hpc⟩ := hcut
        obtain ⟨v10, hv10⟩ : ∃ x : World, x = wc := ⟨_, rfl⟩
        subst hv10
        have P11 := hid (show Pure v9 v10 from hpc)
        have HT := hid (fun W (hW : Pure v10 W) => hT.pure hW)
        clear hT hpc qa qb
        have hhas := hid (rchas_any _ _ gB.2.1 gB.2.2 (zx, zy) v10 (HX2.out v10 (P4.out.then_ (P5.out.then_ (P6.out.then_ (P7.out.then_ (P8.out.then_ (P9.out.then_ (P10.out.then_ P11.out)))))))).r.2.1 (HX2.out v10 (P4.out.then_ (P5.out.then_ (P6.out.then_ (P7.out.then_ (P8.out.then_ (P9.out.then_ (P10.out.then_ P11.out)))))))).r.2.2)
        unfold dv at hhas
        dsimp only at hhas
        obtain ⟨HX2_0, HX2_1, HX2_2⟩ := (HX2.out v10 (P4.out.then_ (P5.out.then_ (P6.out.then_ (P7.out.then_ (P8.out.then_ (P9.out.then_ (P10.out.then_ P11.out)))))))).cells
        obtain ⟨HM9_0, HM9_1, HM9_2, HM9_3, HM9_4⟩ := (HM9.out v10 P11.out).cells
        go_wp2_with fail
        refine (hhas.out).mono ?_
        rintro e v11 ⟨rfl, hp⟩
        clear HX2_0 HX2_1 HX2_2 HM9_0 HM9_1 HM9_2 HM9_3 HM9_4
        have P12 := hid (show Pure v10 v11 from hp)
        clear hp
        clear hhas
        obtain ⟨⟨⟨ux, uy⟩, uq, ub, uc⟩, hmm⟩ : ∃ m : Msg, (lget gB.1 (zx, zy)).getD m0 = m := ⟨_, rfl⟩
        have hget := hid (rget_any _ _ _ gB (zx, zy) v11 (HX2.out v11 (P4.out.then_ (P5.out.then_ (P6.out.then_ (P7.out.then_ (P8.out.then_ (P9.out.then_ (P10.out.then_ (P11.out.then_ P12.out))))))))).r)
        unfold getR dv at hget
        rw [hmm] at hget
        unfold mv at hget
        dsimp only at hget
        clear hmm
        generalize (lget gB.1 (zx, zy)).isSome = uo at *
        generalize chas gB.2.1 gB.2.2 (zx, zy) = us at *
        obtain ⟨HX2_0, HX2_1, HX2_2⟩ := (HX2.out v11 (P4.out.then_ (P5.out.then_ (P6.out.then_ (P7.out.then_ (P8.out.then_ (P9.out.then_ (P10.out.then_ (P11.out.then_ P12.out))))))))).cells
        obtain ⟨HM9_0, HM9_1, HM9_2, HM9_3, HM9_4⟩ := (HM9.out v11 (P11.out.then_ P12.out)).cells
        go_wp2_with fail
        refine hget.out.mono ?_
        rintro e wq ⟨rfl, hp⟩
        obtain ⟨v12, hv12⟩ : ∃ W, W = wq.alloc (.cells #[.int .i64 ux, .int .i64 uy, .string (bs uq), .string (bs ub), .int .i64 uc] 41) := ⟨_, rfl⟩
        clear HX2_0 HX2_1 HX2_2 HM9_0 HM9_1 HM9_2 HM9_3 HM9_4
        have P13 := hid (show Pure v11 v12 from hp.then_ (by rw [hv12]; exact pal5 _ _))
        clear hp hget
        obtain ⟨HM9_0, HM9_1, HM9_2, HM9_3, HM9_4⟩ := (HM9.out v12 (P11.out.then_ (P12.out.then_ P13.out))).cells
        obtain ⟨HT_0, HT_1, HT_2, HT_3, HT_4⟩ := (HT.out v12 (P12.out.then_ P13.out)).cells
        rw [hv12] at HM9_0 HM9_1 HM9_2 HM9_3 HM9_4 HT_0 HT_1 HT_2 HT_3 HT_4
        have hpf := hid (show Pure v8 v12 from (P9.out.then_ (P10.out.then_ (P11.out.then_ (P12.out.then_ P13.out)))))
        rw [hv12] at hpf
        have hcnt := Hcnt.out
        have hth := Hth.out
        clear Hcnt Hth hv12
        cases th with
        | false =>
          cases us <;> cases uo <;> simp at hth
          go_wp2
          go_roundw
          case rel => exact ⟨k + 1, by omega, by go_num, hpf.out⟩
          case measure => simp [RowKit.intOf]; omega
        | true =>
          have hle : ¬ tc < zc := by have := hcnt rfl; omega
          clear hcnt
          cases us <;> cases uo <;> simp at hth
          all_goals
            go_wp2
            go_roundw
            (case rel => exact ⟨k + 1, by omega, by go_num, hpf.out⟩)
            (case measure => simp [RowKit.intOf]; omega)
    · have hlt' : ¬ (k : Int) < (gA.1.length : Int) := by omega
      obtain ⟨HX1_0, HX1_1, HX1_2⟩ := (HX1.out wr (P3.out.then_ (P4.out.then_ (P5.out.then_ (P6.out.then_ (P7.out.then_ (P8.out.then_ P9.out))))))).cells
      go_wp2
      go_ret
      exact ⟨rfl, Hpz.out.then_ (P1.out.then_ (P2.out.then_ (P3.out.then_ (P4.out.then_ (P5.out.then_ (P6.out.then_ (P7.out.then_ (P8.out.then_ P9.out))))))))⟩
end Go.Proofs.YtbcbmnifbflmaaaGreat
