/- SiftWhole. -/
import Derived.Test.YtcjggofcmjpfnaaGreatMSq
import Derived.Deep.RegionLawGrows
namespace Go.Proofs.YtcjggofcmjpfnaaGreat
open Go.RowKit Go.Maps Go.Shelf Go.Sort

theorem bags_lit_cells (w : World) (t : V3) : ∀ j u, (bvs [t])[j]? = some u → (w.alloc (.cells #[t.1, t.2.1, t.2.2] 31)).cell? ((⟨w.heap.size, 0, none⟩ : Addr).add j) = some u := by
  intro j u hj
  rw [Addr.add_lit, Nat.zero_add, World.cell?_alloc_new]
  simpa [bvs, bcells] using hj
/-- The nodes in whatever order. -/
def ordN (turned : Bool) (N : List Int) : List Int := if turned then N.reverse else N
theorem ordN_len (t : Bool) (N : List Int) : (ordN t N).length = N.length := by cases t <;> simp [ordN]
theorem ordN_mem {t : Bool} {N : List Int} {x : Int} (h : x ∈ N) : x ∈ ordN t N := by cases t <;> simpa [ordN] using h
theorem ordN_get (t : Bool) (N : List Int) (k : Nat) (h : k < N.length) : (ordN t N).getD k 0 = N.getD (if t then N.length - 1 - k else k) 0 := by
  cases t
  · rfl
  · simp [ordN, List.getD, List.getElem?_reverse h]

set_option maxRecDepth 8000 in
set_option maxHeartbeats 8000000 in
theorem whole_walk (a0 a1 : Value) (M : List Msg) (G : List Bool) (tn : Bool) (w : World) (hp : PlanV w a0 a1 M G) :
    Calls Tryz.prog 6 #[.agg #[a0, a1], .bool tn] w fun e w' => e = .returned (.bool true) ∧ Pure w w' := by
  obtain ⟨wz, hwz, Hpz, hS⟩ := pbox1 w a0 a1
  have HA := hid (fun W (hW : Pure wz W) => planG (hp.pure (Hpz.out.then_ hW)))
  have okA := hid (planB_ok M G)
  unfold BagO at HA
  generalize planB M G = gA at *
  clear hp
  go_enter Tryz.func6, Tryz.ntmps6
  go_wp2_with fail
  rw [← hwz]
  clear hwz
  refine (awake_any wz).mono ?_
  rintro e w1 ⟨rfl, hp⟩
  have P1 := hid (show Pure wz w1 from hp)
  clear hp
  obtain ⟨hS_0, hS_1, hS_2⟩ := (hS.out w1 P1.out)
  go_wp2_with fail
  refine (HA.out w1 P1.out).mono ?_
  rintro e wq ⟨x0, x1, x2, rfl, hr, hp, hf⟩
  have hX := BX.made hr
  obtain ⟨y10, k10, rfl⟩ := hr.1.shape
  obtain ⟨y11, k11, rfl⟩ := hr.2.1.shape
  obtain ⟨y12, k12, rfl⟩ := hr.2.2.shape
  obtain ⟨v1, hv1⟩ : ∃ W, W = wq.alloc (.cells #[.slice y10 gA.1.length k10, .slice y11 gA.2.1.length k11, .slice y12 gA.2.2.length k12] 31) := ⟨_, rfl⟩
  rw [← hv1] at hX
  clear hS_0 hS_1 hS_2
  have P2 := hid (show Pure w1 v1 from hp.then_ (by rw [hv1]; exact (Below.refl _ _).alloc (Nat.le_refl _) _))
  have HX1 := hid (fun W (hW : Pure v1 W) => hX.pure hW)
  have hsz1 := hid (show wq.heap.size < v1.heap.size from by rw [hv1]; simp)
  clear hr hp hf hX
  generalize hn1 : wq.heap.size = na at *
  obtain ⟨hS_0, hS_1, hS_2⟩ := (hS.out v1 (P1.out.then_ P2.out))
  obtain ⟨HX1_0, HX1_1, HX1_2⟩ := (HX1.out v1 (Below.refl _ _)).cells
  rw [hv1] at hS_0 hS_1 hS_2 HX1_0 HX1_1 HX1_2
  go_wp2_with fail
  rw [← hv1]
  clear hS_0 hS_1 hS_2 HX1_0 HX1_1 HX1_2
  clear hv1 hn1
  generalize Value.slice y10 gA.1.length k10 = z10 at *
  generalize Value.slice y11 gA.2.1.length k11 = z11 at *
  generalize Value.slice y12 gA.2.2.length k12 = z12 at *
  clear HA hS
  have Hn := hid (snodes_any _ _ _ gA U64 v1 (HX1.out v1 (Below.refl _ _)).r okA.out (Nat.le_trans U64_le (by decide)))
  have hnl := hid (show (cnodes gA.2.1 gA.2.2).length ≤ 1000 from by
    have := cnodes_len' gA.2.1 gA.2.2
    have := okA.out.sml.l0; have := okA.out.sml.l1; have := U64_le; omega)
  have hgw := hid (some_whole okA.out (N := ordN tn (cnodes gA.2.1 gA.2.2)) (fun x hx => ordN_mem hx))
  have hsw := hid (some_whole okA.out (N := cnodes gA.2.1 gA.2.2) (fun x hx => hx))
  unfold IntsO at Hn
  generalize cnodes gA.2.1 gA.2.2 = N at *
  refine Hn.out.mono ?_
  rintro e w2 ⟨v2, rfl, hown, hp⟩
  obtain ⟨a2, c2, rfl⟩ := own_shape_d hown
  have HN := hid (fun W (hW : Pure w2 W) => (show Ints W (.slice a2 N.length c2) N from Row.pure (Row.of_own hown) hW))
  have P3 := hid (show Pure v1 w2 from hp)
  clear hown hp Hn
  have hnl' := hnl.out
  have hprt := hid (fun W (hW : Pure v1 W) x => partG x (HX1.out W hW).r okA.out (Nat.le_trans U64_le (by decide)))
  unfold BagO at hprt
  obtain ⟨i0, hi, hz0, hz1, hz2⟩ := info_parts infoBag
  go_wp2_with fail
  go_loopw [8, 9, 10] (fun v i _ wr => ∃ (k : Nat) (T : List V3), k ≤ N.length ∧ T.length = k ∧ i = .int .i64 k ∧ PS w2.heap.size v T (((ordN tn N).take k).map (bpart gA)) wr ∧ Pure w2 wr) (fun _ i _ _ => N.length - (RowKit.intOf i).toNat)
  case atStart => exact ⟨0, [], Nat.zero_le _, rfl, rfl, PS.nil _, Below.refl _ _⟩
  case round =>
    obtain ⟨k, T, hk, hTk, rfl, hP, hp⟩ := hrel
    have hTl0 : T.length ≤ 1000 := by omega
    have HTk := hid hTk
    clear hTk
    have HP := hid hP
    have Hp := hid hp
    obtain ⟨aT, cT, rfl⟩ := Row.shape (Row.of_own hP.own)
    obtain ⟨x0, x1, x2⟩ := (HX1.out wr (P3.out.then_ hp)).cells
    by_cases hlt : k < N.length
    · have hlt' : (k : Int) < (N.length : Int) := by omega
      have hJ := hid (ordN_get tn N k hlt)
      have hJl := hid (show (if tn then N.length - 1 - k else k) < N.length from by cases tn <;> simp <;> omega)
      have Hstep := hid (parts_take gA (ordN tn N) k (by rw [ordN_len]; exact hlt))
      rw [hJ.out] at Hstep
      clear hP hp
      go_upto_if 26 with fail
      go_cut [10] from 19 to 40 (fun kv wx => kv = .int .i64 ((if tn then N.length - 1 - k else k : Nat) : Int) ∧ wx = wr)
      case first =>
        cases tn with
        | false =>
          go_wp2
          go_meet
          case rel => exact ⟨rfl, rfl⟩
        | true =>
          have q1 : wrap64 ((N.length : Int) - 1) = (N.length : Int) - 1 := by unfold wrap64; omega
          have q2 : wrap64 ((N.length : Int) - 1 - (k : Int)) = (N.length : Int) - 1 - (k : Int) := by unfold wrap64; omega
          go_wp2
          go_meet
          case rel => exact ⟨by congr 1; simp; omega, rfl⟩
      case rest =>
      obtain ⟨rfl, rfl⟩ := hcut
      have hJ2 := hJl.out
      generalize (if tn then N.length - 1 - k else k) = J at *
      obtain ⟨bn, on, e, hbn, hx⟩ := ints_get_j (HN.out wc Hp.out) hJ2
      subst e
      generalize N.getD J 0 = x at *
      have hJ3 : (J : Int) < (N.length : Int) := by omega
      have qa := hid (fun W (hW : Pure wc W) => hprt.out W ((P3.out.then_ Hp.out).then_ hW) x)
      generalize ((ordN tn N).take k).map (bpart gA) = Gs at *
      generalize bpart gA x = gx at *
      have hsr := Hp.out.size
      have Hdr := hid (show Pure wc wc.drew from (Below.refl _ _).drew)
      have hTl : T.length + 1 ≤ 2000 := by omega
      clear hbn
      go_wp2_with fail
      go_region_law (first
        | (go_simp; go_at_call 13; (with_reducible refine (qa.out _ Hdr.out).mono ?_); rintro e w7 ⟨s0, s1, s2, rfl, h7, hp7, hf7⟩; have H7 := hid (Hdr.out.then_ hp7); have hB7 := hid h7; have hF7 := hid (show BFr wc.heap.size _ _ _ from hf7); have hone := hid (OneC.of h7); obtain ⟨p0, k0, rfl⟩ := h7.1.shape; obtain ⟨p1, k1, rfl⟩ := h7.2.1.shape; obtain ⟨p2, k2, rfl⟩ := h7.2.2.shape; clear h7 hp7 hf7)
        | (refine step_append_own2 rfl (.tmp 32) (.tmp 39) 50 rfl w2.heap.size 31 i0 (.agg #[.slice none 0 0, .slice none 0 0, .slice none 0 0]) 3 72 Tryz.underlying50 hi hz0 hz1 hz2 rfl (by decide) (.slice aT T.length cT) T.length (bvs T) (by simp [Act.eval]) (World.ownsRow.alloc (HP.out.pure H7.out).own _) ⟨w7.heap.size, 0, none⟩ 1 1 (bvs [(.slice p0 gx.1.length k0, .slice p1 gx.2.1.length k1, .slice p2 gx.2.2.length k2)]) (by simp [Act.eval]) rfl (bags_lit_cells w7 (.slice p0 gx.1.length k0, .slice p1 gx.2.1.length k1, .slice p2 gx.2.2.length k2)) (bvs_one _ (fun t ht => by simp only [List.mem_singleton] at ht; subst ht; exact hone.out)) (by unfold maxLen; omega) (by omega) (by have := H7.out.size; simp; omega) ?_; intro v' w' hown' hg' hn'; rw [← bvs_append] at hown'; have HP9 := hid (HP.out.push (t := (.slice p0 gx.1.length k0, .slice p1 gx.2.1.length k1, .slice p2 gx.2.2.length k2)) (H7.out.alloc H7.out.size _) (hB7.out.pure ((Below.refl _ _).alloc (Nat.le_refl _) _)) hF7.out hown' hg' hn'); have Hp9 := hid (((Hp.out.then_ H7.out).alloc (by have := H7.out.size; omega) _).grown hg' (by have := H7.out.size; simp; omega) (fun k hk => (HP.out.own.lt k hk).1)); obtain ⟨a9, c9, rfl⟩ := own_shape_d hown'; clear hown' hg' hn'))
      all_goals
        go_wp2
        go_roundw
        (case rel => exact ⟨k + 1, T ++ [(.slice p0 gx.1.length k0, .slice p1 gx.2.1.length k1, .slice p2 gx.2.2.length k2)], by omega, by rw [List.length_append, HTk.out]; rfl, by go_num, by rw [Hstep.out]; exact HP9.out, Hp9.out⟩)
        (case measure => simp [RowKit.intOf]; omega)
    · have hlt' : ¬ (k : Int) < (N.length : Int) := by omega
      rw [List.take_of_length_le (by rw [ordN_len]; omega)] at HP hP
      have Hc := hid (gather_any _ T ((ordN tn N).map (bpart gA)) U64 wr (Row.of_own hP.own) hP.r (fun y hy => by obtain ⟨n, _, rfl⟩ := List.mem_map.1 hy; exact okA.out.part n) U64_le)
      have e1 : bgather ((ordN tn N).map (bpart gA)) = gA := hgw.out
      rw [e1] at Hc
      clear e1
      unfold BagO at Hc
      have P4 := hid (show Pure w2 wr from hp)
      clear hP hp x0 x1 x2
      go_wp2_with fail
      refine (Hc.out).mono ?_
      rintro e wq ⟨x0, x1, x2, rfl, hr, hp, hf⟩
      have hX := BX.made hr
      obtain ⟨y50, k50, rfl⟩ := hr.1.shape
      obtain ⟨y51, k51, rfl⟩ := hr.2.1.shape
      obtain ⟨y52, k52, rfl⟩ := hr.2.2.shape
      obtain ⟨v5, hv5⟩ : ∃ W, W = wq.alloc (.cells #[.slice y50 gA.1.length k50, .slice y51 gA.2.1.length k51, .slice y52 gA.2.2.length k52] 31) := ⟨_, rfl⟩
      rw [← hv5] at hX
      have P5 := hid (show Pure wr v5 from hp.then_ (by rw [hv5]; exact (Below.refl _ _).alloc (Nat.le_refl _) _))
      have HX5 := hid (fun W (hW : Pure v5 W) => hX.pure hW)
      have hsz5 := hid (show wq.heap.size < v5.heap.size from by rw [hv5]; simp)
      clear hr hp hf hX
      generalize hn5 : wq.heap.size = nx at *
      obtain ⟨HX1_0, HX1_1, HX1_2⟩ := (HX1.out v5 (P3.out.then_ (P4.out.then_ P5.out))).cells
      obtain ⟨HX5_0, HX5_1, HX5_2⟩ := (HX5.out v5 (Below.refl _ _)).cells
      rw [hv5] at HX1_0 HX1_1 HX1_2 HX5_0 HX5_1 HX5_2
      go_wp2_with fail
      rw [← hv5]
      clear HX1_0 HX1_1 HX1_2 HX5_0 HX5_1 HX5_2
      clear hv5 hn5
      generalize Value.slice y50 gA.1.length k50 = z50 at *
      generalize Value.slice y51 gA.2.1.length k51 = z51 at *
      generalize Value.slice y52 gA.2.2.length k52 = z52 at *
      refine (rsameP (HX5.out v5 (Below.refl _ _)).r (HX1.out v5 (P3.out.then_ (P4.out.then_ P5.out))).r).mono ?_
      rintro e w6 ⟨rfl, hp⟩
      have P6 := hid (show Pure v5 w6 from hp)
      clear hp
      have qa := hid (fun W (hW : Pure w6 W) => ssome_any _ _ _ _ gA N U64 W (HX1.out W ((P3.out.then_ (P4.out.then_ (P5.out.then_ P6.out))).then_ hW)).r okA.out U64_le (HN.out W ((P4.out.then_ (P5.out.then_ P6.out)).then_ hW)) (by omega))
      rw [hsw.out] at qa
      have qs := hid (fun W s0 s1 s2 (ha : BR3 s0 s1 s2 gA W) (hW : Pure w6 W) => rsameP ha (HX1.out W ((P3.out.then_ (P4.out.then_ (P5.out.then_ P6.out))).then_ hW)).r)
      unfold BagO at qa
      have hS1 : Hid (∀ W, Pure w6 W → (W.cell? ⟨na, 0, none⟩ = some z10 ∧ W.cell? ⟨na, 1, none⟩ = some z11 ∧ W.cell? ⟨na, 2, none⟩ = some z12 ∧ Pure w6 W)) := fun W hW => by
        obtain ⟨eHX10, eHX11, eHX12⟩ := (HX1.out W ((P3.out.then_ (P4.out.then_ (P5.out.then_ P6.out))).then_ hW)).cells
        exact ⟨eHX10, eHX11, eHX12, hW⟩
      have hS2 : Hid (∀ W : World, (W.cell? ⟨na, 0, none⟩ = some z10 ∧ W.cell? ⟨na, 1, none⟩ = some z11 ∧ W.cell? ⟨na, 2, none⟩ = some z12 ∧ Pure w6 W) → Pure w6 W) := fun W h => h.2.2.2
      have hst := hid (hS1.out w6.drew (Below.refl _ _).drew)
      go_wp2_with fail
      go_region_held3 (fun W => W.cell? ⟨na, 0, none⟩ = some z10 ∧ W.cell? ⟨na, 1, none⟩ = some z11 ∧ W.cell? ⟨na, 2, none⟩ = some z12 ∧ Pure w6 W)
        (first | with_reducible exact hst.out | with_reducible assumption | with_reducible exact hS1.out _ (Pure.then_ (hS2.out _ (by assumption)) (by assumption)))
        ((first
          | (go_at_call 24; ((refine (qa.out _ (hS2.out _ (by assumption))).mono ?_)); rintro e w17 ⟨s0, s1, s2, rfl, h7, hp7, _⟩)
          | (go_at_call 12; ((refine (qs.out _ _ _ _ h7 (hS2.out _ (by assumption))).mono ?_)); rintro e w19 ⟨rfl, hp9⟩)))
      have P7 := hid (show Pure w6 w19 from hS2.out w19 (by assumption))
      clear hst hS1 hS2
      clear h7 hp7 hp9 qa qs
      go_wp2
      go_ret
      exact ⟨rfl, Hpz.out.then_ (P1.out.then_ (P2.out.then_ (P3.out.then_ (P4.out.then_ (P5.out.then_ (P6.out.then_ P7.out))))))⟩
end Go.Proofs.YtcjggofcmjpfnaaGreat
