/- SiftDiffers. -/
import Derived.Test.YtcjggofcmjpfnaaGreatSH
namespace Go.Proofs.YtcjggofcmjpfnaaGreat
open Go.RowKit Go.Maps Go.Shelf Go.Sort

/-- A plan, as a value. -/
structure PlanV (w : World) (v0 v1 : Value) (M : List Msg) (G : List Bool) : Prop where
  m : Msgs w v0 M
  g : ∃ a n c, v1 = .slice a n c ∧ BoolsAt w a n c G
theorem PlanV.pure {w w' : World} {v0 v1 : Value} {M : List Msg} {G : List Bool} (h : PlanV w v0 v1 M G) (hp : Pure w w') : PlanV w' v0 v1 M G := by
  obtain ⟨a, n, c, e, hg⟩ := h.g
  exact ⟨Row.pure h.m hp, a, n, c, e, hg.pure hp⟩
theorem planG {w : World} {v0 v1 : Value} {M : List Msg} {G : List Bool} (h : PlanV w v0 v1 M G) : Calls Tryz.prog 10 #[.agg #[v0, v1]] w (BagO w (planB M G)) := by
  obtain ⟨a, n, c, rfl, hg⟩ := h.g
  exact plan_any v0 M a n c G w h.m hg
theorem pbox2 (w : World) (a0 a1 b0 b1 : Value) : ∃ wz, wz = (w.alloc (.cells #[a0, a1] 25)).alloc (.cells #[b0, b1] 25) ∧ Hid (Pure w wz) ∧ Hid (∀ W, Pure wz W → (W.cell? ⟨w.heap.size, 0, none⟩ = some a0 ∧ W.cell? ⟨w.heap.size, 1, none⟩ = some a1 ∧ W.cell? ⟨w.heap.size + 1, 0, none⟩ = some b0 ∧ W.cell? ⟨w.heap.size + 1, 1, none⟩ = some b1 ∧ Pure wz W)) := by
  refine ⟨_, rfl, ((Below.refl _ _).alloc (Nat.le_refl _) _).alloc (by simp) _, fun W hW => ?_⟩
  have n1 := block_alloc_new (w.alloc (.cells #[a0, a1] 25)) (.cells #[b0, b1] 25)
  have n0 := block_alloc_old (block_alloc_new w (.cells #[a0, a1] 25)) (.cells #[b0, b1] 25)
  rw [World.size_alloc] at n1
  have e0 := (hW.block _ (lt_of_block n0)).trans n0
  have e1 := (hW.block _ (lt_of_block n1)).trans n1
  exact ⟨cell_of_block e0 0, cell_of_block e0 1, cell_of_block e1 0, cell_of_block e1 1, hW⟩

set_option maxRecDepth 8000 in
set_option maxHeartbeats 4000000 in
theorem differs_walk (a0 a1 b0 b1 : Value) (M K : List Msg) (G H : List Bool) (one : Bool) (w : World) (hp : PlanV w a0 a1 M G) (hq : PlanV w b0 b1 K H) :
    Calls Tryz.prog 3 #[.agg #[a0, a1], .agg #[b0, b1], .bool one] w fun e w' => e = .returned (.bool true) ∧ Pure w w' := by
  obtain ⟨wz, hwz, Hpz, hS⟩ := pbox2 w a0 a1 b0 b1
  have HA := hid (fun W (hW : Pure wz W) => planG (hp.pure (Hpz.out.then_ hW)))
  have HB := hid (fun W (hW : Pure wz W) => planG (hq.pure (Hpz.out.then_ hW)))
  have okA := hid (planB_ok M G)
  have okB := hid (planB_ok K H)
  unfold BagO at HA HB
  generalize planB M G = gA at *
  generalize planB K H = gB at *
  clear hp hq
  go_enter Tryz.func3, Tryz.ntmps3
  go_wp2_with fail
  rw [← hwz]
  clear hwz
  refine (awake_any wz).mono ?_
  rintro e w1 ⟨rfl, hp1⟩
  have H1 := hid hp1
  obtain ⟨f0, f1, f2, f3, _⟩ := hS.out w1 hp1
  clear hp1
  go_wp2_with fail
  refine (HA.out w1 H1.out).mono ?_
  rintro e w2 ⟨x0, x1, x2, rfl, hr2, hp2, hf2⟩
  obtain ⟨y0, k0, rfl⟩ := hr2.1.shape
  obtain ⟨y1, k1, rfl⟩ := hr2.2.1.shape
  obtain ⟨y2, k2, rfl⟩ := hr2.2.2.shape
  have hXa := BX.made hr2
  obtain ⟨w3, hw3⟩ : ∃ w3, w3 = w2.alloc (.cells #[.slice y0 gA.1.length k0, .slice y1 gA.2.1.length k1, .slice y2 gA.2.2.length k2] 31) := ⟨_, rfl⟩
  rw [← hw3] at hXa
  have hp3 : Pure w2 w3 := by rw [hw3]; exact (Below.refl _ _).alloc (Nat.le_refl _) _
  have Hs3 := hid (show w3.heap.size = w2.heap.size + 1 from by rw [hw3]; simp)
  have H3 := hid (H1.out.then_ (hp2.then_ hp3))
  have HXa := hid hXa
  have HaLt := hid hXa.r.lt
  clear f0 f1 f2 f3
  obtain ⟨f0, f1, f2, f3, _⟩ := hS.out w3 H3.out
  rw [hw3] at f0 f1 f2 f3
  clear hr2 hp2 hf2 hp3 hXa
  go_wp2_with fail
  rw [← hw3]
  clear hw3 f0 f1 f2 f3
  refine (HB.out w3 H3.out).mono ?_
  rintro e w4 ⟨x0, x1, x2, rfl, hr4, hp4, hf4⟩
  obtain ⟨z0, j0, rfl⟩ := hr4.1.shape
  obtain ⟨z1, j1, rfl⟩ := hr4.2.1.shape
  obtain ⟨z2, j2, rfl⟩ := hr4.2.2.shape
  have hXb := BX.made hr4
  obtain ⟨w5, hw5⟩ : ∃ w5, w5 = w4.alloc (.cells #[.slice z0 gB.1.length j0, .slice z1 gB.2.1.length j1, .slice z2 gB.2.2.length j2] 31) := ⟨_, rfl⟩
  rw [← hw5] at hXb
  have hp5 : Pure w4 w5 := by rw [hw5]; exact (Below.refl _ _).alloc (Nat.le_refl _) _
  have H5 := hid (H3.out.then_ (hp4.then_ hp5))
  have HXa5 := hid (HXa.out.pure (hp4.then_ hp5))
  have HXb := hid hXb
  have hs4 := hp4.size
  have Hlt := hid (show w2.heap.size < w4.heap.size from by have := Hs3.out; omega)
  have Hle := hid hs4
  have Hltw := hid (show w.heap.size ≤ w4.heap.size from by have := Hpz.out.size; have := H3.out.size; omega)
  clear hr4 hp4 hf4 hp5 hXb hs4 HXa
  generalize hna : w2.heap.size = na at *
  generalize hnb : w4.heap.size = nb at *
  go_upto_if 19 with fail
  rw [← hw5]
  clear hw5
  have hok2 : BOk U64 (if one then gA else gB) := by
    cases one
    · exact okB.out
    · exact okA.out
  generalize hgc : (if one then gA else gB) = gC at *
  go_cut [] from 19 to 71 (fun wx => ∃ b0 b1 b2, BX nb b0 b1 b2 gC wx ∧ BX na (.slice y0 gA.1.length k0) (.slice y1 gA.2.1.length k1) (.slice y2 gA.2.2.length k2) gA wx ∧ Pure w wx)
  case first =>
    cases one with
    | true =>
      simp only [if_true] at hgc
      subst hgc
      obtain ⟨c0, c1, c2⟩ := HXa5.out.cells
      have s0 := cell_of_block HXb.out.b 0
      have s1 := cell_of_block HXb.out.b 1
      have s2 := cell_of_block HXb.out.b 2
      have s3 := free_of_block HXb.out.b 0
      have s4 := free_of_block HXb.out.b 1
      have s5 := free_of_block HXb.out.b 2
      simp only [List.getElem?_toArray, List.getElem?_cons_succ, List.getElem?_cons_zero] at s0 s1 s2
      have HE := hid (show BX nb (.slice y0 gA.1.length k0) (.slice y1 gA.2.1.length k1) (.slice y2 gA.2.2.length k2) gA (((w5.setCell ⟨nb, 0, none⟩ (.slice y0 gA.1.length k0)).setCell ⟨nb, 1, none⟩ (.slice y1 gA.2.1.length k1)).setCell ⟨nb, 2, none⟩ (.slice y2 gA.2.2.length k2)) ∧ BX na (.slice y0 gA.1.length k0) (.slice y1 gA.2.1.length k1) (.slice y2 gA.2.2.length k2) gA (((w5.setCell ⟨nb, 0, none⟩ (.slice y0 gA.1.length k0)).setCell ⟨nb, 1, none⟩ (.slice y1 gA.2.1.length k1)).setCell ⟨nb, 2, none⟩ (.slice y2 gA.2.2.length k2)) ∧ Pure w (((w5.setCell ⟨nb, 0, none⟩ (.slice y0 gA.1.length k0)).setCell ⟨nb, 1, none⟩ (.slice y1 gA.2.1.length k1)).setCell ⟨nb, 2, none⟩ (.slice y2 gA.2.2.length k2)) from by
        have hk := kept3 w5 nb (.slice y0 gA.1.length k0) (.slice y1 gA.2.1.length k1) (.slice y2 gA.2.2.length k2)
        have hl := HaLt.out
        have hle := Hle.out
        have hr := HXa5.out.r.kept hk (fun k hk e => by have := hl.1 k hk; omega) (fun k hk e => by have := hl.2.1 k hk; omega) (fun k hk e => by have := hl.2.2 k hk; omega)
        refine ⟨⟨set3 HXb.out.b _ _ _, hr⟩, ⟨(hk.block _ (lt_of_block HXa5.out.b) (by have := Hlt.out; omega)).trans HXa5.out.b, hr⟩, ?_⟩
        exact (Kept.trans (Pure.kept (S := fun k => w.heap.size ≤ k) (Hpz.out.then_ H5.out)) (hk.mono (fun k _ e => (show w.heap.size ≤ k by have := Hltw.out; omega)))).below (Nat.le_refl _) (fun k hk e => by omega))
      go_wp2
      go_meet
      case rel => exact ⟨_, _, _, HE.out.1, HE.out.2.1, HE.out.2.2⟩
    | false =>
      simp only [Bool.false_eq_true, if_false] at hgc
      subst hgc
      go_wp2
      go_meet
      case rel => exact ⟨_, _, _, HXb.out, HXa5.out, Hpz.out.then_ H5.out⟩
  case rest =>
  obtain ⟨b0, b1, b2, hXc, hXa', hpw⟩ := hcut
  obtain ⟨z0, j0, rfl⟩ := hXc.r.1.shape
  obtain ⟨z1, j1, rfl⟩ := hXc.r.2.1.shape
  obtain ⟨z2, j2, rfl⟩ := hXc.r.2.2.shape
  have Hpw := hid hpw
  have XC := hid (fun W (hW : Pure wc W) => hXc.pure hW)
  have XA := hid (fun W (hW : Pure wc W) => hXa'.pure hW)
  have hS2 : Hid (∀ W, Pure wc W → (W.cell? ⟨na, 0, none⟩ = some (.slice y0 gA.1.length k0) ∧ W.cell? ⟨na, 1, none⟩ = some (.slice y1 gA.2.1.length k1) ∧ W.cell? ⟨na, 2, none⟩ = some (.slice y2 gA.2.2.length k2) ∧ W.cell? ⟨nb, 0, none⟩ = some (.slice z0 gC.1.length j0) ∧ W.cell? ⟨nb, 1, none⟩ = some (.slice z1 gC.2.1.length j1) ∧ W.cell? ⟨nb, 2, none⟩ = some (.slice z2 gC.2.2.length j2))) := fun W hW => by
    obtain ⟨e0, e1, e2⟩ := (XA.out W hW).cells
    obtain ⟨e3, e4, e5⟩ := (XC.out W hW).cells
    exact ⟨e0, e1, e2, e3, e4, e5⟩
  have okC := hid hok2
  have Hd := hid (sdiffer_any _ _ _ _ _ _ gA gC U64 wc hXa'.r hXc.r okA.out hok2 (by rw [U64_len]; decide))
  have hsm := hid (fun W (hW : Pure wc W) => rsameG (XA.out W hW).r (XC.out W hW).r)
  have hpa := hid (fun W (hW : Pure wc W) x => partG x (XA.out W hW).r okA.out (by rw [U64_len]; decide))
  have hpc := hid (fun W (hW : Pure wc W) x => partG x (XC.out W hW).r okC.out (by rw [U64_len]; decide))
  have hnil := hid (bdiffer_nil okA.out hok2)
  have hrise := hid (bdiffer_rise gA gC)
  have hmem := hid (fun x (hx : x ∈ bdiffer gA gC) => bdiffer_mem hx)
  unfold IntsO at Hd
  generalize bdiffer gA gC = N at *
  clear hXc hXa' hpw hok2 HXb HXa5 HaLt Hle Hlt Hltw H5 H3 H1 HA HB hS Hs3 okB hgc
  generalize decide (gA = gC) = D at *
  obtain ⟨c0, c1, c2, c3, c4, c5⟩ := hS2.out wc (Below.refl _ _)
  go_wp2_with fail
  refine Hd.out.mono ?_
  rintro e wd ⟨vd, rfl, hown, hpd⟩
  obtain ⟨ad, cd, rfl⟩ := own_shape_d hown
  have Hpd := hid hpd
  have HN := hid (show Ints wd (.slice ad N.length cd) N from Row.of_own hown)
  have hNl : N.length ≤ maxLen := Row.len_le HN.out
  unfold maxLen at hNl
  clear hown hpd c0 c1 c2 c3 c4 c5 Hd
  obtain ⟨c0, c1, c2, c3, c4, c5⟩ := hS2.out wd Hpd.out
  go_wp2_with fail
  refine (hsm.out wd Hpd.out).mono ?_
  rintro e we ⟨rfl, hpe⟩
  have Hpe := hid (Hpd.out.then_ hpe)
  have HNe := hid (Row.pure HN.out hpe : Ints we _ N)
  clear hpe c0 c1 c2 c3 c4 c5 HN hsm
  go_wp2
  go_loopw [12] (fun i wr => ∃ k : Nat, k ≤ N.length ∧ i = .int .i64 k ∧ Pure we wr) (fun i _ => N.length - (RowKit.intOf i).toNat)
  case atStart => exact ⟨0, Nat.zero_le _, rfl, Below.refl _ _⟩
  case round =>
    obtain ⟨k, hk, rfl, hp⟩ := hrel
    by_cases hlt : k < N.length
    · have hlt' : (k : Int) < (N.length : Int) := by omega
      obtain ⟨bn, on, rfl, hbn, hx⟩ := ints_get_j (Row.pure HNe.out hp : Ints wr _ N) hlt
      have hne := hid (hmem.out (N.getD k 0) (by simp [List.getD, hlt]))
      have hlt2 := hid (fun m (hm : k = m + 1) => (show N.getD m 0 < N.getD k 0 ∧ wr.cell? ⟨bn, on + m, none⟩ = some (.int .i64 (N.getD m 0)) from by
        subst hm
        refine ⟨?_, ?_⟩
        · have := List.pairwise_iff_getElem.1 hrise.out m (m + 1) (by omega) hlt (by omega)
          simpa [List.getD, hlt, show m < N.length by omega] using this
        · obtain ⟨b', o', e, _, h⟩ := ints_get_j (Row.pure HNe.out hp : Ints wr _ N) (show m < N.length by omega)
          cases e; exact h))
      generalize hxe : N.getD k 0 = x at *
      have Hx := hid hx
      have Hbn := hid hbn
      have Hp := hid hp
      have Hpc := hid (Hpe.out.then_ hp)
      have hSx : Hid (∀ W, Pure wr W → (W.cell? ⟨na, 0, none⟩ = some (.slice y0 gA.1.length k0) ∧ W.cell? ⟨na, 1, none⟩ = some (.slice y1 gA.2.1.length k1) ∧ W.cell? ⟨na, 2, none⟩ = some (.slice y2 gA.2.2.length k2) ∧ W.cell? ⟨nb, 0, none⟩ = some (.slice z0 gC.1.length j0) ∧ W.cell? ⟨nb, 1, none⟩ = some (.slice z1 gC.2.1.length j1) ∧ W.cell? ⟨nb, 2, none⟩ = some (.slice z2 gC.2.2.length j2) ∧ W.cell? ⟨bn, on + k, none⟩ = some (.int .i64 x) ∧ Pure wr W)) := fun W hW => by
        obtain ⟨e0, e1, e2, e3, e4, e5⟩ := hS2.out W (Hpc.out.then_ hW)
        exact ⟨e0, e1, e2, e3, e4, e5, (hW.cell (p := ⟨bn, on + k, none⟩) Hbn.out).trans Hx.out, hW⟩
      have hSy : Hid (∀ W : World, (W.cell? ⟨na, 0, none⟩ = some (.slice y0 gA.1.length k0) ∧ W.cell? ⟨na, 1, none⟩ = some (.slice y1 gA.2.1.length k1) ∧ W.cell? ⟨na, 2, none⟩ = some (.slice y2 gA.2.2.length k2) ∧ W.cell? ⟨nb, 0, none⟩ = some (.slice z0 gC.1.length j0) ∧ W.cell? ⟨nb, 1, none⟩ = some (.slice z1 gC.2.1.length j1) ∧ W.cell? ⟨nb, 2, none⟩ = some (.slice z2 gC.2.2.length j2) ∧ W.cell? ⟨bn, on + k, none⟩ = some (.int .i64 x) ∧ Pure wr W) → Pure wr W) := fun W h => h.2.2.2.2.2.2.2
      have hst := hid (hSx.out wr.drew (Below.refl _ _).drew)
      have qa := hid (fun W (hW : Pure wr W) => hpa.out W (Hpc.out.then_ hW) x)
      have qc := hid (fun W (hW : Pure wr W) => hpc.out W (Hpc.out.then_ hW) x)
      have qs := hid (fun W s0 s1 s2 t0 t1 t2 (ha : BR3 s0 s1 s2 (bpart gA x) W) (hb : BR3 t0 t1 t2 (bpart gC x) W) => (show Calls _ _ _ _ _ from by have := rsameG ha hb; rw [decide_eq_false hne.out] at this; exact this))
      unfold BagO at qa qc
      generalize bpart gA x = Ga at *
      generalize bpart gC x = Gc at *
      clear hne hp hx hbn
      go_wp2_with fail
      go_region_held3 (fun W => W.cell? ⟨na, 0, none⟩ = some (.slice y0 gA.1.length k0) ∧ W.cell? ⟨na, 1, none⟩ = some (.slice y1 gA.2.1.length k1) ∧ W.cell? ⟨na, 2, none⟩ = some (.slice y2 gA.2.2.length k2) ∧ W.cell? ⟨nb, 0, none⟩ = some (.slice z0 gC.1.length j0) ∧ W.cell? ⟨nb, 1, none⟩ = some (.slice z1 gC.2.1.length j1) ∧ W.cell? ⟨nb, 2, none⟩ = some (.slice z2 gC.2.2.length j2) ∧ W.cell? ⟨bn, on + k, none⟩ = some (.int .i64 x) ∧ Pure wr W)
        (first | with_reducible exact hst.out | with_reducible exact hSx.out _ (Pure.then_ (hSy.out _ (by assumption)) (by assumption)))
        ((first
          | (go_at_call 13; (with_reducible refine (qa.out _ (hSy.out _ (by assumption))).mono ?_); rintro e w7 ⟨s0, s1, s2, rfl, h7, hp7, _⟩)
          | (go_at_call 13; (with_reducible refine (qc.out _ (hSy.out _ (by assumption))).mono ?_); rintro e w8 ⟨t0, t1, t2, rfl, h8, hp8, _⟩)
          | (go_at_call 12; (first | (refine (qs.out _ _ _ _ _ _ _ (h7.pure hp8) h8).mono ?_) | (refine (qs.out _ _ _ _ _ _ _ h7 (h8.pure hp7)).mono ?_)); rintro e w9 ⟨rfl, hp9⟩)))
      have H9 := hid (hSy.out w9 (by assumption))
      have hx9 := (H9.out.cell (p := ⟨bn, on + k, none⟩) Hbn.out).trans Hx.out
      clear h7 hp7 h8 hp8 hp9 hst hSx hSy qa qc qs
      cases k with
      | zero =>
        have h00 : ¬ (((0 : Nat) : Int) > 0) := by omega
        go_wp2_with fail
        go_quiet (fail)
        go_wp2
        go_roundw
        case rel => exact ⟨1, by omega, by go_num, Hp.out.then_ (H9.out.then_ (pure_drewN _ _))⟩
        case measure => simp [RowKit.intOf]; omega
      | succ m =>
        obtain ⟨hl, hc⟩ := hlt2.out m rfl
        have hcm := (H9.out.cell (p := ⟨bn, on + m, none⟩) Hbn.out).trans hc
        generalize N.getD m 0 = y at *
        have h00 : ((m + 1 : Nat) : Int) > 0 := by omega
        have hy1 : ¬ y ≥ x := by omega
        have hw1 : wrap64 (((m + 1 : Nat) : Int) - 1) = m := by unfold wrap64; omega
        have hw2 : IntKind.i64.wrap (((m + 1 : Nat) : Int) - 1) = m := by rw [IntWalk.i64_in _ (by omega)]; omega
        have hmN : (m : Int) < (N.length : Int) := by omega
        go_wp2_with fail
        go_quiet (fail)
        go_wp2
        go_roundw
        case rel => exact ⟨m + 1 + 1, by omega, by go_num, Hp.out.then_ (H9.out.then_ (pure_drewN _ _))⟩
        case measure => simp [RowKit.intOf]; omega
    · have hlt' : ¬ (k : Int) < (N.length : Int) := by omega
      have Hp := hid (Hpw.out.then_ (Hpe.out.then_ hp))
      have hD : ((N.length : Int) == 0) = D := by rw [← hnil.out]; rw [Bool.eq_iff_iff]; simp
      have hDD : (((N.length : Int) == 0) == D) = true := by rw [hD]; simp
      clear hp
      go_wp2
      go_ret
      exact ⟨rfl, Hp.out⟩
end Go.Proofs.YtcjggofcmjpfnaaGreat
