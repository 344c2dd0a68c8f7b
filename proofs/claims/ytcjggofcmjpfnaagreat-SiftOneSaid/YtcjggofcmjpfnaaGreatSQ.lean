/- SiftOne. -/
import Derived.Test.YtcjggofcmjpfnaaGreatMSq
namespace Go.Proofs.YtcjggofcmjpfnaaGreat
open Go.RowKit Go.Maps Go.Shelf Go.Sort

theorem ints_lit2 (w : World) (x y : Int) : Ints (w.alloc (.cells #[.int .i64 x, .int .i64 y] 3)) (.slice (some ⟨w.heap.size, 0, none⟩) 2 2) [x, y] := by
  refine ⟨rfl, _, _, rfl, Nat.le_refl _, by unfold maxLen; simp, .inr ⟨_, _, rfl, by simp, fun i hi => ?_⟩⟩
  rw [Nat.zero_add, World.cell?_alloc_new]
  simp
theorem wantB {U : List Dot} {g : Bag} (hg : BOk U g) (x y : Int) : decide (bpart (bpart g x) y = if x = y then bpart g x else ([], [], [])) = true := decide_eq_true (part_part hg x y)
theorem BagO.from_ {w w1 : World} {g : Bag} {e : Ending} {w' : World} (hp : Pure w w1) (h : BagO w1 g e w') : BagO w g e w' := by
  obtain ⟨v0, v1, v2, he, h1, h2, h3⟩ := h
  exact ⟨v0, v1, v2, he, h1, hp.then_ h2, h3.mono hp.size⟩
/-- A bag handed back, laid in a box of its own. -/
theorem BagO.box {w w' : World} {g : Bag} {v0 v1 v2 : Value} (h : BR3 v0 v1 v2 g w') (hp : Pure w w') : ∃ wb, wb = w'.alloc (.cells #[v0, v1, v2] 31) ∧ Hid (Pure w wb) ∧ Hid (BX w'.heap.size v0 v1 v2 g wb) ∧ wb.heap.size = w'.heap.size + 1 :=
  ⟨_, rfl, hp.then_ ((Below.refl _ _).alloc (Nat.le_refl _) _), BX.made h, by simp⟩

set_option maxRecDepth 8000 in
set_option maxHeartbeats 8000000 in
theorem one_walk (a0 a1 : Value) (M : List Msg) (G : List Bool) (q0 q1 : Int) (w : World) (hp : PlanV w a0 a1 M G) :
    Calls Tryz.prog 7 #[.agg #[a0, a1], .agg #[.int .i64 q0, .int .i64 q1]] w fun e w' => e = .returned (.bool true) ∧ Pure w w' := by
  obtain ⟨wz, hwz⟩ : ∃ wz, wz = (w.alloc (.cells #[a0, a1] 25)).alloc (.cells #[.int .i64 q0, .int .i64 q1] 53) := ⟨_, rfl⟩
  have Hpz := hid (show Pure w wz from by rw [hwz]; exact ((Below.refl _ _).alloc (Nat.le_refl _) _).alloc (by simp) _)
  have n0 : wz.heap[w.heap.size]? = some (.cells #[a0, a1] 25 (0, 0)) := by rw [hwz]; exact block_alloc_old (block_alloc_new _ _) _
  have n1 : wz.heap[w.heap.size + 1]? = some (.cells #[.int .i64 q0, .int .i64 q1] 53 (0, 0)) := by
    have := block_alloc_new (w.alloc (.cells #[a0, a1] 25)) (.cells #[.int .i64 q0, .int .i64 q1] 53)
    rw [World.size_alloc] at this
    rw [hwz]; exact this
  have hS : Hid (∀ W, Pure wz W → (W.cell? ⟨w.heap.size, 0, none⟩ = some a0 ∧ W.cell? ⟨w.heap.size, 1, none⟩ = some a1 ∧ W.cell? ⟨w.heap.size + 1, 0, none⟩ = some (.int .i64 q0) ∧ W.cell? ⟨w.heap.size + 1, 1, none⟩ = some (.int .i64 q1))) := fun W hW => by
    have e0 := (hW.block _ (lt_of_block n0)).trans n0
    have e1 := (hW.block _ (lt_of_block n1)).trans n1
    exact ⟨cell_of_block e0 0, cell_of_block e0 1, cell_of_block e1 0, cell_of_block e1 1⟩
  have HA := hid (fun W (hW : Pure wz W) => planG (hp.pure (Hpz.out.then_ hW)))
  have okA := hid (planB_ok M G)
  unfold BagO at HA
  generalize planB M G = gA at *
  clear hp n0 n1
  go_enter Tryz.func7, Tryz.ntmps7
  go_wp2_with fail
  rw [← hwz]
  clear hwz
  refine (awake_any wz).mono ?_
  rintro e w1 ⟨rfl, hp⟩
  have P1 := hid (show Pure wz w1 from hp)
  clear hp
  obtain ⟨hS_0, hS_1, hS_2, hS_3⟩ := (hS.out w1 P1.out)
  go_wp2_with fail
  refine (HA.out w1 P1.out).mono ?_
  rintro e wq ⟨x0, x1, x2, rfl, hr, hp, hf⟩
  have hX := BX.made hr
  obtain ⟨y10, k10, rfl⟩ := hr.1.shape
  obtain ⟨y11, k11, rfl⟩ := hr.2.1.shape
  obtain ⟨y12, k12, rfl⟩ := hr.2.2.shape
  obtain ⟨v1, hv1⟩ : ∃ W, W = wq.alloc (.cells #[.slice y10 gA.1.length k10, .slice y11 gA.2.1.length k11, .slice y12 gA.2.2.length k12] 31) := ⟨_, rfl⟩
  rw [← hv1] at hX
  clear hS_0 hS_1 hS_2 hS_3
  have P2 := hid (show Pure w1 v1 from hp.then_ (by rw [hv1]; exact (Below.refl _ _).alloc (Nat.le_refl _) _))
  have HX1 := hid (fun W (hW : Pure v1 W) => hX.pure hW)
  have hsz1 := hid (show wq.heap.size < v1.heap.size from by rw [hv1]; simp)
  have hse1 := hid (show v1.heap.size = wq.heap.size + 1 from by rw [hv1]; simp)
  clear hr hp hf hX
  generalize hn1 : wq.heap.size = na at *
  obtain ⟨hS_0, hS_1, hS_2, hS_3⟩ := (hS.out v1 (P1.out.then_ P2.out))
  obtain ⟨HX1_0, HX1_1, HX1_2⟩ := (HX1.out v1 (Below.refl _ _)).cells
  rw [hv1] at hS_0 hS_1 hS_2 hS_3 HX1_0 HX1_1 HX1_2
  have hnx : 0 ≤ bits .and .i64 q0 3 ∧ bits .and .i64 q0 3 ≤ 3 := and_le q0 3 (by decide)
  have hny : 0 ≤ bits .and .i64 q1 3 ∧ bits .and .i64 q1 3 ≤ 3 := and_le q1 3 (by decide)
  have hw1 : wrap64 (1 + bits .and .i64 q0 3) = 1 + bits .and .i64 q0 3 := by unfold wrap64; omega
  have hw2 : wrap64 (1 + bits .and .i64 q1 3) = 1 + bits .and .i64 q1 3 := by unfold wrap64; omega
  go_wp2_with fail
  rw [← hv1]
  clear hS_0 hS_1 hS_2 hS_3 HX1_0 HX1_1 HX1_2
  clear hv1 hn1
  generalize Value.slice y10 gA.1.length k10 = z10 at *
  generalize Value.slice y11 gA.2.1.length k11 = z11 at *
  generalize Value.slice y12 gA.2.2.length k12 = z12 at *
  clear HA hS hw1 hw2 hnx hny
  generalize 1 + bits .and .i64 q0 3 = x at *
  generalize 1 + bits .and .i64 q1 3 = y at *
  have Hp1 := hid (partG x (HX1.out v1 (Below.refl _ _)).r okA.out (Nat.le_trans U64_le (by decide)))
  unfold BagO at Hp1
  have okX := hid (okA.out.part x)
  have hwant := hid (part_part okA.out x y)
  have hget := hid (fun m (hm : m ∈ gA.1) => some_get okA.out [x, y] hm)
  generalize bpart gA x = gX at *
  refine (Hp1.out).mono ?_
  rintro e wq ⟨x0, x1, x2, rfl, hr, hp, hf⟩
  have hX := BX.made hr
  obtain ⟨y20, k20, rfl⟩ := hr.1.shape
  obtain ⟨y21, k21, rfl⟩ := hr.2.1.shape
  obtain ⟨y22, k22, rfl⟩ := hr.2.2.shape
  obtain ⟨v2, hv2⟩ : ∃ W, W = wq.alloc (.cells #[.slice y20 gX.1.length k20, .slice y21 gX.2.1.length k21, .slice y22 gX.2.2.length k22] 31) := ⟨_, rfl⟩
  rw [← hv2] at hX
  have P3 := hid (show Pure v1 v2 from hp.then_ (by rw [hv2]; exact (Below.refl _ _).alloc (Nat.le_refl _) _))
  have HX2 := hid (fun W (hW : Pure v2 W) => hX.pure hW)
  have hsz2 := hid (show wq.heap.size < v2.heap.size from by rw [hv2]; simp)
  have hse2 := hid (show v2.heap.size = wq.heap.size + 1 from by rw [hv2]; simp)
  clear hr hp hf hX
  generalize hn2 : wq.heap.size = nx at *
  obtain ⟨HX1_0, HX1_1, HX1_2⟩ := (HX1.out v2 P3.out).cells
  obtain ⟨HX2_0, HX2_1, HX2_2⟩ := (HX2.out v2 (Below.refl _ _)).cells
  rw [hv2] at HX1_0 HX1_1 HX1_2 HX2_0 HX2_1 HX2_2
  go_wp2_with fail
  rw [← hv2]
  clear HX1_0 HX1_1 HX1_2 HX2_0 HX2_1 HX2_2
  clear hv2 hn2
  have Hp2 := hid (partG y (HX2.out v2 (Below.refl _ _)).r okX.out (Nat.le_trans U64_le (by decide)))
  unfold BagO at Hp2
  generalize bpart gX y = gT at *
  clear Hp1
  refine (Hp2.out).mono ?_
  rintro e wq ⟨x0, x1, x2, rfl, hr, hp, hf⟩
  have hX := BX.made hr
  obtain ⟨y30, k30, rfl⟩ := hr.1.shape
  obtain ⟨y31, k31, rfl⟩ := hr.2.1.shape
  obtain ⟨y32, k32, rfl⟩ := hr.2.2.shape
  obtain ⟨v3, hv3⟩ : ∃ W, W = wq.alloc (.cells #[.slice y30 gT.1.length k30, .slice y31 gT.2.1.length k31, .slice y32 gT.2.2.length k32] 31) := ⟨_, rfl⟩
  rw [← hv3] at hX
  have P4 := hid (show Pure v2 v3 from hp.then_ (by rw [hv3]; exact (Below.refl _ _).alloc (Nat.le_refl _) _))
  have HX3 := hid (fun W (hW : Pure v3 W) => hX.pure hW)
  have hsz3 := hid (show wq.heap.size < v3.heap.size from by rw [hv3]; simp)
  have hse3 := hid (show v3.heap.size = wq.heap.size + 1 from by rw [hv3]; simp)
  clear hr hp hf hX
  generalize hn3 : wq.heap.size = nt at *
  obtain ⟨HX1_0, HX1_1, HX1_2⟩ := (HX1.out v3 (P3.out.then_ P4.out)).cells
  obtain ⟨HX2_0, HX2_1, HX2_2⟩ := (HX2.out v3 P4.out).cells
  obtain ⟨HX3_0, HX3_1, HX3_2⟩ := (HX3.out v3 (Below.refl _ _)).cells
  rw [hv3] at HX1_0 HX1_1 HX1_2 HX2_0 HX2_1 HX2_2 HX3_0 HX3_1 HX3_2
  go_upto_if 38 with fail
  clear Hp2
  rw [← hv3]
  clear HX1_0 HX1_1 HX1_2 HX2_0 HX2_1 HX2_2 HX3_0 HX3_1 HX3_2
  clear hv3 hn3
  generalize Value.slice y30 gT.1.length k30 = z30 at *
  generalize Value.slice y31 gT.2.1.length k31 = z31 at *
  generalize Value.slice y32 gT.2.2.length k32 = z32 at *
  obtain ⟨w4, hw4⟩ : ∃ w4, w4 = v3.alloc (.cells #[.slice none 0 0, .slice none 0 0, .slice none 0 0] 31) := ⟨_, rfl⟩
  have hb4 := hid (show RsB (nt + 1) w4 from by rw [hw4, ← hse3.out]; exact block_alloc_new _ _)
  have Hp4 := hid (show Pure v3 w4 from by rw [hw4]; exact (Below.refl _ _).alloc (Nat.le_refl _) _)
  have hsw := hid (show nx < v3.heap.size ∧ nt < v3.heap.size ∧ na < v3.heap.size from by
    have e0 := lt_of_block (HX1.out v3 (P3.out.then_ P4.out)).b
    have e1 := lt_of_block (HX2.out v3 P4.out).b
    have e2 := lt_of_block (HX3.out v3 (Below.refl _ _)).b
    exact ⟨e1, e2, e0⟩)
  have HX2w := hid (HX2.out w4 (P4.out.then_ Hp4.out))
  rw [← hw4]
  clear hw4
  have hsE := hse3.out
  rw [hsE] at hsw
  generalize hnw : nt + 1 = nw at *
  go_cut [] from 36 (fun wx => ∃ t0 t1 t2, BX nw t0 t1 t2 gT wx ∧ Pure v3 wx)
  case first =>
    by_cases hxy : x = y
    · subst hxy
      have hw := hwant.out
      rw [if_pos rfl] at hw
      subst hw
      obtain ⟨c0, c1, c2⟩ := HX2w.out.cells
      obtain ⟨s0, s1, s2, s3, s4, s5⟩ := hb4.out.cells
      have HE := hid (show BX nw (.slice y20 gT.1.length k20) (.slice y21 gT.2.1.length k21) (.slice y22 gT.2.2.length k22) gT (((w4.setCell ⟨nw, 0, none⟩ (.slice y20 gT.1.length k20)).setCell ⟨nw, 1, none⟩ (.slice y21 gT.2.1.length k21)).setCell ⟨nw, 2, none⟩ (.slice y22 gT.2.2.length k22)) ∧ Pure v3 (((w4.setCell ⟨nw, 0, none⟩ (.slice y20 gT.1.length k20)).setCell ⟨nw, 1, none⟩ (.slice y21 gT.2.1.length k21)).setCell ⟨nw, 2, none⟩ (.slice y22 gT.2.2.length k22)) from by
        have hk := kept3 w4 nw (.slice y20 gT.1.length k20) (.slice y21 gT.2.1.length k21) (.slice y22 gT.2.2.length k22)
        have hl := (HX2.out v3 P4.out).r.lt
        have hr := HX2w.out.r.kept hk (fun k hk e => by have := hl.1 k hk; omega) (fun k hk e => by have := hl.2.1 k hk; omega) (fun k hk e => by have := hl.2.2 k hk; omega)
        exact ⟨⟨set3 hb4.out _ _ _, hr⟩, (Kept.trans (Pure.kept (S := fun k => v3.heap.size ≤ k) Hp4.out) (hk.mono (fun k _ e => (show v3.heap.size ≤ k by omega)))).below (Nat.le_refl _) (fun k hk e => by omega)⟩)
      go_wp2
      go_meet
      case rel => exact ⟨_, _, _, HE.out.1, HE.out.2⟩
    · have hw := hwant.out
      rw [if_neg hxy] at hw
      have hb : (x == y) = false := by simpa using hxy
      have HE := hid (show BX nw (.slice none 0 0) (.slice none 0 0) (.slice none 0 0) gT w4 from ⟨hb4.out, by rw [hw]; exact BR3.nil _⟩)
      go_wp2
      go_meet
      case rel => exact ⟨_, _, _, HE.out, Hp4.out⟩
  case rest =>
  obtain ⟨t0, t1, t2, hXw, hpc⟩ := hcut
  have P5 := hid (show Pure v3 wc from hpc)
  obtain ⟨_, _, rfl⟩ := hXw.r.1.shape
  obtain ⟨_, _, rfl⟩ := hXw.r.2.1.shape
  obtain ⟨_, _, rfl⟩ := hXw.r.2.2.shape
  have HX4 := hid (fun W (hW : Pure wc W) => hXw.pure hW)
  clear hXw hpc hb4 Hp4 HX2w
  obtain ⟨HX3_0, HX3_1, HX3_2⟩ := (HX3.out wc P5.out).cells
  obtain ⟨HX4_0, HX4_1, HX4_2⟩ := (HX4.out wc (Below.refl _ _)).cells
  go_wp2_with fail
  refine (rsameP (HX3.out wc P5.out).r (HX4.out wc (Below.refl _ _)).r).mono ?_
  rintro e w5 ⟨rfl, hp⟩
  clear HX3_0 HX3_1 HX3_2 HX4_0 HX4_1 HX4_2
  have P6 := hid (show Pure wc w5 from hp)
  clear hp
  obtain ⟨HX1_0, HX1_1, HX1_2⟩ := (HX1.out w5 (P3.out.then_ (P4.out.then_ (P5.out.then_ P6.out)))).cells
  have hsm := hid ((ssome_any _ _ _ _ gA [x, y] U64 (w5.alloc (.cells #[.int .i64 x, .int .i64 y] 3)) (HX1.out _ ((P3.out.then_ (P4.out.then_ (P5.out.then_ P6.out))).then_ ((Below.refl _ _).alloc (Nat.le_refl _) _))).r okA.out U64_le (ints_lit2 w5 x y) (by simp)).mono fun _ _ h => BagO.from_ (show Pure w5 (w5.alloc (.cells #[.int .i64 x, .int .i64 y] 3)) from (Below.refl _ _).alloc (Nat.le_refl _) _) h)
  unfold BagO at hsm
  generalize bsome gA [x, y] = gS at *
  go_wp2_with fail
  refine (hsm.out).mono ?_
  rintro e wq ⟨x0, x1, x2, rfl, hr, hp, hf⟩
  have hX := BX.made hr
  obtain ⟨y50, k50, rfl⟩ := hr.1.shape
  obtain ⟨y51, k51, rfl⟩ := hr.2.1.shape
  obtain ⟨y52, k52, rfl⟩ := hr.2.2.shape
  obtain ⟨v5, hv5⟩ : ∃ W, W = wq.alloc (.cells #[.slice y50 gS.1.length k50, .slice y51 gS.2.1.length k51, .slice y52 gS.2.2.length k52] 31) := ⟨_, rfl⟩
  rw [← hv5] at hX
  clear HX1_0 HX1_1 HX1_2
  have P7 := hid (show Pure w5 v5 from hp.then_ (by rw [hv5]; exact (Below.refl _ _).alloc (Nat.le_refl _) _))
  have HX5 := hid (fun W (hW : Pure v5 W) => hX.pure hW)
  have hsz5 := hid (show wq.heap.size < v5.heap.size from by rw [hv5]; simp)
  have hse5 := hid (show v5.heap.size = wq.heap.size + 1 from by rw [hv5]; simp)
  clear hr hp hf hX
  generalize hn5 : wq.heap.size = ns at *
  obtain ⟨HX1_0, HX1_1, HX1_2⟩ := (HX1.out v5 (P3.out.then_ (P4.out.then_ (P5.out.then_ (P6.out.then_ P7.out))))).cells
  obtain ⟨HX5_0, HX5_1, HX5_2⟩ := (HX5.out v5 (Below.refl _ _)).cells
  rw [hv5] at HX1_0 HX1_1 HX1_2 HX5_0 HX5_1 HX5_2
  go_wp2_with fail
  rw [← hv5]
  clear HX1_0 HX1_1 HX1_2 HX5_0 HX5_1 HX5_2
  clear hv5 hn5
  generalize Value.slice y50 gS.1.length k50 = z50 at *
  generalize Value.slice y51 gS.2.1.length k51 = z51 at *
  generalize Value.slice y52 gS.2.2.length k52 = z52 at *
  clear hsm
  have hgl : gA.1.length ≤ 1000 := by have := okA.out.len; have := U64_le; omega
  go_loopw [14] (fun i wr => ∃ k : Nat, k ≤ gA.1.length ∧ i = .int .i64 k ∧ Pure v5 wr) (fun i _ => gA.1.length - (RowKit.intOf i).toNat)
  case atStart => exact ⟨0, Nat.zero_le _, rfl, Below.refl _ _⟩
  case round =>
    obtain ⟨k, hk, rfl, hp⟩ := hrel
    have Hp := hid hp
    have H1 := HX1.out wr ((P3.out.then_ (P4.out.then_ (P5.out.then_ (P6.out.then_ P7.out)))).then_ hp)
    have H5 := HX5.out wr hp
    clear hp
    have hm0 := H1.r.1
    obtain ⟨a1, c1, e⟩ := hm0.shape
    subst e
    obtain ⟨g0, -, -⟩ := H1.cells
    by_cases hlt : k < gA.1.length
    · have hlt' : (k : Int) < (gA.1.length : Int) := by omega
      obtain ⟨b, off, e, hb, m0', m1, m2, m3, m4⟩ := Msgs.get hm0 hlt
      subst e
      have hgm := hget.out (gA.1.getD k m0) (by simp [List.getD, hlt])
      generalize gA.1.getD k m0 = m at *
      obtain ⟨⟨mx, my⟩, mq, mb, mc⟩ := m
      dsimp only at m0' m1 m2 m3 m4 hgm
      obtain ⟨wb, hwb⟩ : ∃ wb, wb = wr.alloc (.cells #[.int .i64 mx, .int .i64 my, .string (bs mq), .string (bs mb), .int .i64 mc] 57) := ⟨_, rfl⟩
      have Hpb := hid (show Pure wr wb from by rw [hwb]; exact (Below.refl _ _).alloc (Nat.le_refl _) _)
      have Hmx := hid (show MX wr.heap.size ((mx, my), mq, mb, mc) wb from by rw [hwb]; exact MX.made wr ((mx, my), mq, mb, mc))
      obtain ⟨f0, f1, f2⟩ := (H5.pure Hpb.out).cells
      obtain ⟨x0, x1, -, -, -⟩ := Hmx.out.cells
      have hG := hid (rget_any _ _ _ gS (mx, my) wb (H5.pure Hpb.out).r)
      unfold getR dv at hG
      dsimp only at hG
      generalize lget gS.1 (mx, my) = o at *
      generalize o.getD m0 = z at *
      obtain ⟨⟨zx, zy⟩, zq, zb, zc⟩ := z
      unfold mv at hG
      dsimp only at hG
      generalize o.isSome = D at *
      rw [hwb] at f0 f1 f2 x0 x1
      have Hgm := hid hgm
      clear hgm H1 H5 hm0 hb
      go_wp2_with fail
      rw [← hwb]
      clear hwb f0 f1 f2 x0 x1 g0 m0' m1 m2 m3 m4
      refine hG.out.mono ?_
      rintro e w7 ⟨rfl, hp7⟩
      obtain ⟨y0, y1, -, -, -⟩ := (Hmx.out.pure hp7).cells
      have Hp7 := hid (Hp.out.then_ (Hpb.out.then_ hp7))
      have hl7 := lt_of_block (Hmx.out.pure hp7).b
      clear hp7 hG
      simp only [List.mem_cons, List.not_mem_nil, or_false] at Hgm
      by_cases h1 : mx = x
      · have hD : D = true := by rw [Hgm.out]; simp [h1]
        have hb1 : (mx == x) = true := by simpa using h1
        subst hD
        clear Hgm h1
        go_wp2
        go_roundw
        case rel => exact ⟨k + 1, by omega, by go_num, Hp7.out.then_ ((Below.refl _ _).alloc (Nat.le_refl _) _)⟩
        case measure => simp [RowKit.intOf]; omega
      · have hb1 : (mx == x) = false := by simpa using h1
        by_cases h2 : mx = y
        · have hD : D = true := by rw [Hgm.out]; simp [h2]
          have hb2 : (mx == y) = true := by simpa using h2
          subst hD
          clear Hgm h1 h2
          go_wp2
          go_roundw
          case rel => exact ⟨k + 1, by omega, by go_num, Hp7.out.then_ ((Below.refl _ _).alloc (Nat.le_refl _) _)⟩
          case measure => simp [RowKit.intOf]; omega
        · have hD : D = false := by rw [Hgm.out]; simp [h1, h2]
          have hb2 : (mx == y) = false := by simpa using h2
          subst hD
          clear Hgm h1 h2
          go_wp2
          go_roundw
          case rel => exact ⟨k + 1, by omega, by go_num, Hp7.out.then_ ((Below.refl _ _).alloc (Nat.le_refl _) _)⟩
          case measure => simp [RowKit.intOf]; omega
    · have hlt' : ¬ (k : Int) < (gA.1.length : Int) := by omega
      have Hend := hid (Hpz.out.then_ ((P1.out.then_ (P2.out.then_ (P3.out.then_ (P4.out.then_ (P5.out.then_ (P6.out.then_ P7.out)))))).then_ Hp.out))
      clear hm0 H1 H5
      go_wp2
      go_ret
      exact ⟨rfl, Hend.out⟩
end Go.Proofs.YtcjggofcmjpfnaaGreat
