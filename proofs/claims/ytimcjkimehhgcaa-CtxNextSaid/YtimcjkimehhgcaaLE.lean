/- CtxSees. -/
import Derived.Test.YtimcjkimehhgcaaLD
namespace Go.Proofs.Ytimcjkimehhgcaa
open Go.RowKit Go.Maps Go.Shelf Go.Sort

theorem Ad.ok {X : List Dot × List Dot} (h : COk X.1 X.2) (l : List Dot) : COk (Ad X l).1 (Ad X l).2 := (cjoin_ok h.wk (CWk.cloud (adds_ok l))).1
theorem Ad.has {X : List Dot × List Dot} (h : COk X.1 X.2) (l : List Dot) (d : Dot) : chas (Ad X l).1 (Ad X l).2 d = (chas X.1 X.2 d || (decide (d ∈ l) && dchk d)) := by
  unfold Ad
  rw [(cjoin_ok h.wk (CWk.cloud (adds_ok l))).2 d]
  congr 1
  unfold chas
  have e : decide (d ∈ dsort (l.filter dchk)) = (decide (d ∈ l) && dchk d) := by
    rw [Bool.eq_iff_iff, decide_eq_true_eq, (dsort_spec _).2, List.mem_filter]
    simp
  rw [e]
  cases hc : dchk d with
  | false => simp
  | true =>
    have hd := dchk_iff.1 hc
    have : decide (d.2 ≤ cbase [] d.1) = false := by
      have e0 : cbase [] d.1 = 0 := rfl
      rw [e0]; unfold dok at hd; simp; omega
    rw [this]; simp
theorem Sml.ad {m : Nat} {X : List Dot × List Dot} (h : Sml m X) (l : List Dot) : Sml (2 * m + l.length) (Ad X l) := by
  have hl := cjoin_len h.ok.wk (CWk.cloud (adds_ok l))
  have h3 : (dsort (l.filter dchk)).length ≤ l.length := Nat.le_trans (dsort_len _) (List.length_filter_le _ _)
  have := h.l0; have := h.l1
  simp only [List.length_nil] at hl
  exact ⟨Ad.ok h.ok l, by unfold Ad; omega, by unfold Ad; omega⟩

set_option maxRecDepth 8000 in
set_option maxHeartbeats 16000000 in
theorem sees_walk (va vb vc vd : Value) (A0 A1 B0 B1 : List Dot) (vl : Value) (L : List Dot) (w : World) (h1 : Dots w va A0) (h2 : Dots w vb A1) (h3 : Dots w vc B0) (h4 : Dots w vd B1) (h5 : Dots w vl L) :
    Calls Try.prog 3 #[.agg #[va, vb], .agg #[vc, vd], vl] w fun e w' => e = .returned (.bool true) ∧ Pure w w' := by
  obtain ⟨we, hwz, Hpe, hS0⟩ := box2 w va vb vc vd
  have HS0 := hid (fun W (hW : Pure we W) => hS0.out W hW)
  have Hma := hid (fun W (hW : Pure we W) => made_any va vb A0 A1 W (Row.pure h1 (Hpe.out.then_ hW)) (Row.pure h2 (Hpe.out.then_ hW)))
  have Hmb := hid (fun W (hW : Pure we W) => made_any vc vd B0 B1 W (Row.pure h3 (Hpe.out.then_ hW)) (Row.pure h4 (Hpe.out.then_ hW)))
  have HL := hid (fun W (hW : Pure we W) => (Row.pure h5 (Hpe.out.then_ hW) : Dots W vl L))
  have SX := hid (Sml.made A0 A1)
  have SY := hid (Sml.made B0 B1)
  unfold CtxF cv at Hma Hmb
  generalize madeC A0 A1 = X at *
  generalize madeC B0 B1 = Y at *
  obtain ⟨al, cl, rfl⟩ := h5.shape
  have hLl := h5.len_le
  unfold maxLen at hLl
  have hLc : L.length ≤ cl ∧ cl ≤ maxLen := by
    obtain ⟨_, a', c', e, q1, q2, _⟩ := h5
    cases e; exact ⟨q1, q2⟩
  unfold maxLen at hLc
  clear h1 h2 h3 h4 h5 hS0
  go_enter Try.func3, Try.ntmps3
  go_wp2_with fail
  rw [← hwz]
  clear hwz
  refine (awake_any we).mono ?_
  rintro e w1 ⟨rfl, hp1⟩
  have Hp1 := hid hp1
  obtain ⟨f0, f1, f2, f3, _⟩ := HS0.out w1 hp1
  clear hp1
  go_wp2_with fail
  refine (Hma.out w1 Hp1.out).mono ?_
  rintro e wxa ⟨x0, x1, rfl, hx0, hx1, hpxa, _, _⟩
  have Cx := hid (CB.made (w := wxa) (X := X) hx0 hx1)
  obtain ⟨ax0, cx0, rfl⟩ := hx0.shape
  obtain ⟨ax1, cx1, rfl⟩ := hx1.shape
  obtain ⟨wx, hwx⟩ : ∃ wx, wx = wxa.alloc (.cells #[.slice ax0 X.1.length cx0, .slice ax1 X.2.length cx1] 24) := ⟨_, rfl⟩
  have hpxb : Pure wxa wx := by rw [hwx]; exact (Below.refl _ _).alloc (Nat.le_refl _) _
  have hpxc := hid (hpxa.then_ hpxb)
  have Hpx := hid (Hp1.out.then_ hpxc.out)
  rw [← hwx] at Cx
  clear hpxa hpxb hx0 hx1
  clear f0 f1 f2 f3
  obtain ⟨f0, f1, f2, f3, _⟩ := HS0.out wx Hpx.out
  rw [hwx] at f0 f1 f2 f3
  go_wp2_with fail
  rw [← hwx]
  clear hwx f0 f1 f2 f3
  refine (Hmb.out wx Hpx.out).mono ?_
  rintro e wya ⟨y0, y1, rfl, hy0, hy1, hpya, _, _⟩
  have Cy := hid (CB.made (w := wya) (X := Y) hy0 hy1)
  obtain ⟨ay0, cy0, rfl⟩ := hy0.shape
  obtain ⟨ay1, cy1, rfl⟩ := hy1.shape
  obtain ⟨wy, hwy⟩ : ∃ wy, wy = wya.alloc (.cells #[.slice ay0 Y.1.length cy0, .slice ay1 Y.2.length cy1] 24) := ⟨_, rfl⟩
  have hpyb : Pure wya wy := by rw [hwy]; exact (Below.refl _ _).alloc (Nat.le_refl _) _
  have hpyc := hid (hpya.then_ hpyb)
  have Hpy := hid (Hpx.out.then_ hpyc.out)
  rw [← hwy] at Cy
  clear hpya hpyb hy0 hy1
  have Cx2 := hid (Cx.out.pure hpyc.out)
  clear Cx Hma Hmb HS0
  generalize hnx : wxa.heap.size = nx at *
  generalize hny : wya.heap.size = ny at *
  generalize Value.slice ax0 X.1.length cx0 = x0 at *
  generalize Value.slice ax1 X.2.length cx1 = x1 at *
  go_upto_if 24 with fail
  rw [← hwy]
  clear hwy hnx hny
  generalize Value.slice ay0 Y.1.length cy0 = y0 at *
  generalize Value.slice ay1 Y.2.length cy1 = y1 at *
  have Hle := hid (hpxc.out.then_ hpyc.out)
  have HLy := hid (HL.out wy Hpy.out)
  go_cut [2] from 22 (fun lv wx => Dots wx lv (L.take 12) ∧ wx = wy)
  case first =>
    by_cases h12 : 12 < L.length
    · have h12' : (12 : Int) < (L.length : Int) := by omega
      have h12c : (12 : Int) ≤ (cl : Int) := by omega
      obtain ⟨bl, ol, rfl⟩ : ∃ bl ol, al = some ⟨bl, ol, none⟩ := by
        obtain ⟨b, off, e, _⟩ := Dots.get HLy.out (k := 0) (by omega)
        exact ⟨b, off, e⟩
      have hT := hid (row_pre HLy.out (k := 12) (by omega))
      have hT2 : Hid (Dots wy (.slice (some ⟨bl, ol, none⟩) 12 cl) (L.take 12)) := by
        show Dots _ _ _
        unfold Dots
        rw [dvs_take, show (L.take 12).length = 12 by rw [List.length_take]; omega]
        exact hT.out
      clear hT
      go_wp2
      go_meet
      case rel => exact ⟨hT2.out, rfl⟩
    · have h12' : ¬ (12 : Int) < (L.length : Int) := by omega
      go_wp2
      go_meet
      case rel => exact ⟨by rw [List.take_of_length_le (by omega)]; exact HLy.out, rfl⟩
  case rest =>
  obtain ⟨hl12, rfl⟩ := hcut
  obtain ⟨a2, c2, rfl⟩ := hl12.shape
  have Hl12 := hid hl12
  have hll : (L.take 12).length ≤ 12 := by rw [List.length_take]; omega
  generalize L.take 12 = L' at *
  clear HL HLy hLl hLc hl12
  obtain ⟨wy, rfl⟩ : ∃ wy : World, wy = wc := ⟨_, rfl⟩
  have Hpy2 := hid (Hpe.out.then_ Hpy.out)
  have Hj := hid (joinB Cx2.out.cr Cy.out.cr SX.out SY.out (by decide))
  obtain ⟨f0, f1⟩ := Cx2.out.cells
  obtain ⟨f2, f3⟩ := Cy.out.cells
  go_wp2_with fail
  refine Hj.out.mono ?_
  rintro e wja ⟨j0, j1, rfl, hj, hpja⟩
  have Cj := hid (CB.made (w := wja) (X := Jn X Y) hj.1 hj.2)
  obtain ⟨aj0, cj0, rfl⟩ := hj.1.shape
  obtain ⟨aj1, cj1, rfl⟩ := hj.2.shape
  obtain ⟨wj, hwj⟩ : ∃ wj, wj = wja.alloc (.cells #[.slice aj0 (Jn X Y).1.length cj0, .slice aj1 (Jn X Y).2.length cj1] 24) := ⟨_, rfl⟩
  have hpjb : Pure wja wj := by rw [hwj]; exact (Below.refl _ _).alloc (Nat.le_refl _) _
  have Hpj := hid (hpja.then_ hpjb)
  rw [← hwj] at Cj
  clear hpja hpjb hj f0 f1 f2 f3 Hj
  generalize hnj : wja.heap.size = nj at *
  have Cx3 := hid (Cx2.out.pure Hpj.out)
  obtain ⟨f0, f1⟩ := Cx3.out.cells
  rw [hwj] at f0 f1
  have Hl13 := hid (show Dots wj (.slice a2 L'.length c2) L' from Row.pure Hl12.out Hpj.out)
  have Hm := hid (addB Cx3.out.cr Hl13.out SX.out (by omega))
  go_wp2_with fail
  rw [← hwj]
  clear hwj hnj f0 f1
  generalize Value.slice aj0 (Jn X Y).1.length cj0 = j0 at *
  generalize Value.slice aj1 (Jn X Y).2.length cj1 = j1 at *
  refine Hm.out.mono ?_
  rintro e wma ⟨m0, m1, rfl, hm, hpma⟩
  have Cm := hid (CB.made (w := wma) (X := Ad X L') hm.1 hm.2)
  obtain ⟨am0, cm0, rfl⟩ := hm.1.shape
  obtain ⟨am1, cm1, rfl⟩ := hm.2.shape
  obtain ⟨wm, hwm⟩ : ∃ wm, wm = wma.alloc (.cells #[.slice am0 (Ad X L').1.length cm0, .slice am1 (Ad X L').2.length cm1] 24) := ⟨_, rfl⟩
  have hpmb : Pure wma wm := by rw [hwm]; exact (Below.refl _ _).alloc (Nat.le_refl _) _
  have Hpm := hid (hpma.then_ hpmb)
  rw [← hwm] at Cm
  clear hpma hpmb hm Hm
  generalize hnm : wma.heap.size = nm at *
  have HX := hid (fun W (hW : Pure wm W) => Cx3.out.pure (Hpm.out.then_ hW))
  have HY := hid (fun W (hW : Pure wm W) => Cy.out.pure (Hpj.out.then_ (Hpm.out.then_ hW)))
  have HJ := hid (fun W (hW : Pure wm W) => Cj.out.pure (Hpm.out.then_ hW))
  have HM := hid (fun W (hW : Pure wm W) => Cm.out.pure hW)
  have HL := hid (fun W (hW : Pure wm W) => (Row.pure Hl13.out (Hpm.out.then_ hW) : Dots W (.slice a2 L'.length c2) L'))
  have Hpw := hid (fun W (hW : Pure wm W) => Hpy2.out.then_ (Hpj.out.then_ (Hpm.out.then_ hW)))
  have SJ := hid (SX.out.jn SY.out)
  have SM := hid (SX.out.ad L')
  clear Cx2 Cx3 Cy Hl12 Hl13 Hpx Hpy Hpy2 Hpe Hle hpxc hpyc Hp1 Cj Hpj
  go_wp2_with fail
  rw [← hwm]
  clear hwm hnm Cm Hpm
  generalize Value.slice am0 (Ad X L').1.length cm0 = m0 at *
  generalize Value.slice am1 (Ad X L').2.length cm1 = m1 at *
  go_loopw [12] (fun i wr => ∃ k : Nat, k ≤ L'.length ∧ i = .int .i64 k ∧ Pure wm wr) (fun i _ => L'.length - (RowKit.intOf i).toNat)
  case atStart => exact ⟨0, Nat.zero_le _, rfl, Below.refl _ _⟩
  case round =>
    obtain ⟨k, hk, rfl, hp⟩ := hrel
    have Hp := hid hp
    by_cases hlt : k < L'.length
    · have hlt' : (k : Int) < (L'.length : Int) := by omega
      obtain ⟨b, off, rfl, hb, g0, g1⟩ := Dots.get (HL.out wr hp) hlt
      generalize L'.getD k (0, 0) = z at *
      obtain ⟨d1, d2⟩ := z
      dsimp only at g0 g1
      obtain ⟨wo, hwo⟩ : ∃ wo, wo = wr.alloc (.cells #[.int .i64 d1, .int .i64 d2] 30) := ⟨_, rfl⟩
      have hpo : Pure wr wo := by rw [hwo]; exact (Below.refl _ _).alloc (Nat.le_refl _) _
      have hdb : DB wr.heap.size (d1, d2) wo := by rw [hwo]; exact block_alloc_new _ _
      have Hpo := hid (hp.then_ hpo)
      have HD := hid (fun W (hW : Pure wo W) => (hdb.pure hW).cells)
      clear hp hb hpo hdb
      generalize hnd : wr.heap.size = nd at *
      go_wp2_with fail
      rw [← hwo]
      clear hwo hnd g0 g1
      go_loopw [14] (fun st wr2 => ∃ s : Int, -1 ≤ s ∧ s ≤ 2 ∧ st = .int .i64 s ∧ Pure wo wr2) (fun st _ => (2 - RowKit.intOf st).toNat)
      case atStart => exact ⟨-1, by omega, by omega, rfl, Below.refl _ _⟩
      case round =>
        obtain ⟨s, s0, s1, rfl, hp2⟩ := hrel
        have Hp2 := hid hp2
        by_cases hs : s ≤ 1
        · obtain ⟨g0, g1⟩ := HD.out wr hp2
          have hs' : s ≤ 1 := hs
          have Hwo2 := hid hp2.size
          have hdr := hid (fun W d (hd : DB wr.heap.size d W) (W' : World) (hW : Pure W W') => (hd.pure hW).cells)
          clear hp2
          have hwf := hid (show ∀ o, Pure wr (wr.alloc o) from fun o => (Below.refl _ _).alloc (Nat.le_refl _) o)
          have hthree : (1 < d2 ∧ d2 < 1099511627776) ∨ (1 < d2 ∧ ¬ d2 < 1099511627776) ∨ ¬ 1 < d2 := by omega
          clear HD
          rcases hthree with h1 | h1 | h1
          all_goals (try obtain ⟨h1, h2⟩ := h1)
          all_goals (try have hw : IntKind.i64.wrap (d2 + s) = d2 + s := IntWalk.i64_in _ (by omega))
          all_goals go_wp2_with fail
          all_goals clear g0 g1
          generalize d2 + s = ey at *
          rotate_left
          obtain ⟨ey, rfl⟩ : ∃ ey : Int, ey = d2 := ⟨_, rfl⟩
          rotate_left
          obtain ⟨ey, rfl⟩ : ∃ ey : Int, ey = d2 := ⟨_, rfl⟩
          rotate_left
          all_goals
            obtain ⟨w8, hw8⟩ : ∃ w8, w8 = wr.alloc (.cells #[.int .i64 d1, .int .i64 ey] 30) := ⟨_, rfl⟩
            have hp8 : Pure wr w8 := by rw [hw8]; exact (Below.refl _ _).alloc (Nat.le_refl _) _
            have hde : DB wr.heap.size (d1, ey) w8 := by rw [hw8]; exact block_alloc_new _ _
            have Hd8 := hid (fun W (hW : Pure w8 W) => (hde.pure hW).cells)
            have Hp8 := hid (Hp2.out.then_ hp8)
            rw [← hw8]
            clear hw8 hp8 hde hdr hwf
            have Hwm := hid (fun W (hW : Pure w8 W) => (Hpo.out.then_ Hp8.out).then_ hW)
            have hrh := hid (rdhas_any _ L' (d1, ey) w8 (HL.out _ (Hwm.out w8 (Below.refl _ _))))
            have hrc := hid (fun W => rchk_any (d1, ey) W)
            have qj := hid (fun W (hW : Pure wm W) => hasB (d1, ey) (HJ.out W hW).cr SJ.out (by decide))
            have qx := hid (fun W (hW : Pure wm W) => hasB (d1, ey) (HX.out W hW).cr SX.out (by decide))
            have qy := hid (fun W (hW : Pure wm W) => hasB (d1, ey) (HY.out W hW).cr SY.out (by decide))
            have qm := hid (fun W (hW : Pure wm W) => hasB (d1, ey) (HM.out W hW).cr SM.out (by omega))
            rw [Jn.has SX.out.ok SY.out.ok] at qj
            rw [Ad.has SX.out.ok] at qm
            have HcX := hid (fun W (hW : Pure wm W) => (HX.out W hW).cells)
            have HcY := hid (fun W (hW : Pure wm W) => (HY.out W hW).cells)
            have HcJ := hid (fun W (hW : Pure wm W) => (HJ.out W hW).cells)
            have HcM := hid (fun W (hW : Pure wm W) => (HM.out W hW).cells)
            generalize wr.heap.size = ne at *
            unfold dv at hrh hrc
            dsimp only at hrh hrc qj qx qy qm Hd8
            refine hrh.out.mono ?_
            rintro e w9 ⟨rfl, hp9⟩
            have Hp9 := hid hp9
            obtain ⟨g0, g1⟩ := Hd8.out w9 hp9
            clear hp9 HX HY HJ HM hrh
            generalize chas X.1 X.2 (d1, ey) = a at *
            generalize chas Y.1 Y.2 (d1, ey) = bb at *
            generalize decide ((d1, ey) ∈ L') = p at *
            cases p
            rw [Bool.false_and] at qm
            clear hrc
            rotate_left
            go_wp2_with fail
            refine (hrc.out w9).mono ?_
            rintro e w9' ⟨rfl, hp9'⟩
            have Hp9x := hid (Hp9.out.then_ hp9')
            clear hp9' Hp9 hrc g0 g1
            obtain ⟨w9, rfl⟩ : ∃ w9 : World, w9 = w9' := ⟨_, rfl⟩
            have Hp9 := Hp9x
            clear Hp9x
            rw [Bool.true_and] at qm
            generalize dchk (d1, ey) = q at *
            rotate_left
            all_goals
              have hS : Hid (∀ W, Pure w9 W → (W.cell? ⟨nx, 0, none⟩ = some x0 ∧ W.cell? ⟨nx, 1, none⟩ = some x1 ∧ W.cell? ⟨ny, 0, none⟩ = some y0 ∧ W.cell? ⟨ny, 1, none⟩ = some y1 ∧ W.cell? ⟨nj, 0, none⟩ = some j0 ∧ W.cell? ⟨nj, 1, none⟩ = some j1 ∧ W.cell? ⟨nm, 0, none⟩ = some m0 ∧ W.cell? ⟨nm, 1, none⟩ = some m1 ∧ W.cell? ⟨ne, 0, none⟩ = some (.int .i64 d1) ∧ W.cell? ⟨ne, 1, none⟩ = some (.int .i64 ey) ∧ Pure w9 W)) := fun W hW => by
                have h8 := Hp9.out.then_ hW
                have hm := Hwm.out W h8
                exact ⟨(HcX.out W hm).1, (HcX.out W hm).2, (HcY.out W hm).1, (HcY.out W hm).2, (HcJ.out W hm).1, (HcJ.out W hm).2, (HcM.out W hm).1, (HcM.out W hm).2, (Hd8.out W h8).1, (Hd8.out W h8).2, hW⟩
              have hst := hid (hS.out w9.drew (Below.refl _ _).drew)
              have hS2 : Hid (∀ W : World, (W.cell? ⟨nx, 0, none⟩ = some x0 ∧ W.cell? ⟨nx, 1, none⟩ = some x1 ∧ W.cell? ⟨ny, 0, none⟩ = some y0 ∧ W.cell? ⟨ny, 1, none⟩ = some y1 ∧ W.cell? ⟨nj, 0, none⟩ = some j0 ∧ W.cell? ⟨nj, 1, none⟩ = some j1 ∧ W.cell? ⟨nm, 0, none⟩ = some m0 ∧ W.cell? ⟨nm, 1, none⟩ = some m1 ∧ W.cell? ⟨ne, 0, none⟩ = some (.int .i64 d1) ∧ W.cell? ⟨ne, 1, none⟩ = some (.int .i64 ey) ∧ Pure w9 W) → Pure wm W) := fun W h => Hwm.out W (Hp9.out.then_ h.2.2.2.2.2.2.2.2.2.2)
              have hS3 : Hid (∀ W : World, (W.cell? ⟨nx, 0, none⟩ = some x0 ∧ W.cell? ⟨nx, 1, none⟩ = some x1 ∧ W.cell? ⟨ny, 0, none⟩ = some y0 ∧ W.cell? ⟨ny, 1, none⟩ = some y1 ∧ W.cell? ⟨nj, 0, none⟩ = some j0 ∧ W.cell? ⟨nj, 1, none⟩ = some j1 ∧ W.cell? ⟨nm, 0, none⟩ = some m0 ∧ W.cell? ⟨nm, 1, none⟩ = some m1 ∧ W.cell? ⟨ne, 0, none⟩ = some (.int .i64 d1) ∧ W.cell? ⟨ne, 1, none⟩ = some (.int .i64 ey) ∧ Pure w9 W) → Pure w9 W) := fun W h => h.2.2.2.2.2.2.2.2.2.2
              have hdone := hid (fun W (hW : Pure w9 W) => Hp8.out.then_ (Hp9.out.then_ hW))
              cases a with
              | true =>
                simp only [Bool.true_or] at qj qm
                go_wp2_with fail
                refine wp_region_held_drew (S := (fun W => W.cell? ⟨nx, 0, none⟩ = some x0 ∧ W.cell? ⟨nx, 1, none⟩ = some x1 ∧ W.cell? ⟨ny, 0, none⟩ = some y0 ∧ W.cell? ⟨ny, 1, none⟩ = some y1 ∧ W.cell? ⟨nj, 0, none⟩ = some j0 ∧ W.cell? ⟨nj, 1, none⟩ = some j1 ∧ W.cell? ⟨nm, 0, none⟩ = some m0 ∧ W.cell? ⟨nm, 1, none⟩ = some m1 ∧ W.cell? ⟨ne, 0, none⟩ = some (.int .i64 d1) ∧ W.cell? ⟨ne, 1, none⟩ = some (.int .i64 ey) ∧ Pure w9 W)) (by kernel_rfl) ?_ (fun hHeld => ?_)
                · first | assumption | with_reducible exact hst.out | with_reducible exact hS.out _ (Pure.then_ (hS3.out _ (by assumption)) (by assumption))
                refine wpAnyH_take (i := 0) (v := ?_) rfl (by kernel_rfl) (by kernel_rfl) (by kernel_rfl) (fun _ _ _ h => h) (Or.inl ⟨by rfl, ?_⟩) (by assumption) ?_
                rotate_left
                · intro w hSw; (try dsimp only at hSw); (try simp only [List.getElem_toArray, List.getElem_cons_zero]); go_simp; try with_reducible rfl
                try simp only [Act.put, List.setIfInBounds_toArray, List.set_cons_zero, List.set_cons_succ, List.getElem_toArray, List.getElem_cons_zero]
                refine wpAnyH_take (i := 1) (v := ?_) rfl (by kernel_rfl) (by kernel_rfl) (by kernel_rfl) (fun _ _ _ h => h) (Or.inl ⟨by rfl, ?_⟩) (by assumption) ?_
                rotate_left
                · intro w hSw; (try dsimp only at hSw); (try simp only [List.getElem_toArray, List.getElem_cons_succ, List.getElem_cons_zero]); go_simp; try with_reducible rfl
                try simp only [Act.put, List.setIfInBounds_toArray, List.set_cons_zero, List.set_cons_succ, List.getElem_toArray, List.getElem_cons_succ, List.getElem_cons_zero]
                refine wpAnyH_take (i := 3) (v := ?_) rfl (by kernel_rfl) (by kernel_rfl) (by kernel_rfl) (fun _ _ _ h => h) (Or.inl ⟨by rfl, ?_⟩) (by assumption) ?_
                rotate_left
                · intro w hSw; (try dsimp only at hSw); (try simp only [List.getElem_toArray, List.getElem_cons_succ, List.getElem_cons_zero]); go_simp; try with_reducible rfl
                try simp only [Act.put, List.setIfInBounds_toArray, List.set_cons_zero, List.set_cons_succ, List.getElem_toArray, List.getElem_cons_succ, List.getElem_cons_zero]
                refine wpAnyH_take (i := 4) (v := ?_) rfl (by kernel_rfl) (by kernel_rfl) (by kernel_rfl) (fun _ _ _ h => h) (Or.inl ⟨by rfl, ?_⟩) (by assumption) ?_
                rotate_left
                · intro w hSw; (try dsimp only at hSw); (try simp only [List.getElem_toArray, List.getElem_cons_succ, List.getElem_cons_zero]); go_simp; try with_reducible rfl
                try simp only [Act.put, List.setIfInBounds_toArray, List.set_cons_zero, List.set_cons_succ, List.getElem_toArray, List.getElem_cons_succ, List.getElem_cons_zero]
                refine wpAnyH_ready (rs := [2]) (by kernel_rfl) (by simp) ?_
                refine AllReadyH.cons rfl (fun K hK => ?_) AllReadyH.nil
                (try simp only [List.getElem_toArray, List.getElem_cons_succ, List.getElem_cons_zero])
                go_simp
                go_at_call 15; (with_reducible refine (qj.out _ (hS2.out _ (by assumption))).mono ?_); rintro e wq ⟨rfl, hpwq⟩; go_wp2_with fail
                refine hK.out _ _ ?_ (fun hHeld => ?_)
                · first | assumption | with_reducible exact hst.out | with_reducible exact hS.out _ (Pure.then_ (hS3.out _ (by assumption)) (by assumption))
                clear hK K
                try simp only [Act.put, List.setIfInBounds_toArray, List.set_cons_zero, List.set_cons_succ, List.getElem_toArray, List.getElem_cons_succ, List.getElem_cons_zero]
                refine wpAnyH_ready (rs := [5]) (by kernel_rfl) (by simp) ?_
                refine AllReadyH.cons rfl (fun K hK => ?_) AllReadyH.nil
                (try simp only [List.getElem_toArray, List.getElem_cons_succ, List.getElem_cons_zero])
                go_simp
                go_at_call 15; (with_reducible refine (qx.out _ (hS2.out _ (by assumption))).mono ?_); rintro e wq ⟨rfl, hpwq⟩; go_wp2_with fail
                refine hK.out _ _ ?_ (fun hHeld => ?_)
                · first | assumption | with_reducible exact hst.out | with_reducible exact hS.out _ (Pure.then_ (hS3.out _ (by assumption)) (by assumption))
                clear hK K
                try simp only [Act.put, List.setIfInBounds_toArray, List.set_cons_zero, List.set_cons_succ, List.getElem_toArray, List.getElem_cons_succ, List.getElem_cons_zero]
                refine wpAnyH_take (i := 6) (v := ?_) rfl (by kernel_rfl) (by kernel_rfl) (by kernel_rfl) (fun _ _ _ h => h) (Or.inl ⟨by rfl, ?_⟩) (by assumption) ?_
                rotate_left
                · intro w hSw; (try dsimp only at hSw); (try simp only [List.getElem_toArray, List.getElem_cons_succ, List.getElem_cons_zero]); go_simp; try with_reducible rfl
                try simp only [Act.put, List.setIfInBounds_toArray, List.set_cons_zero, List.set_cons_succ, List.getElem_toArray, List.getElem_cons_succ, List.getElem_cons_zero]
                refine wpAnyH_take (i := 7) (v := undef) rfl (by kernel_rfl) (by kernel_rfl) (by kernel_rfl) (fun _ _ _ h => h) (Or.inr ⟨by rfl, rfl⟩) (by assumption) ?_
                try simp only [Act.put, List.setIfInBounds_toArray, List.set_cons_zero, List.set_cons_succ, List.getElem_toArray, List.getElem_cons_succ, List.getElem_cons_zero]
                refine wpAnyH_take (i := 8) (v := undef) rfl (by kernel_rfl) (by kernel_rfl) (by kernel_rfl) (fun _ _ _ h => h) (Or.inr ⟨by rfl, rfl⟩) (by assumption) ?_
                try simp only [Act.put, List.setIfInBounds_toArray, List.set_cons_zero, List.set_cons_succ, List.getElem_toArray, List.getElem_cons_succ, List.getElem_cons_zero]
                refine wpAnyH_take (i := 9) (v := undef) rfl (by kernel_rfl) (by kernel_rfl) (by kernel_rfl) (fun _ _ _ h => h) (Or.inr ⟨by rfl, rfl⟩) (by assumption) ?_
                try simp only [Act.put, List.setIfInBounds_toArray, List.set_cons_zero, List.set_cons_succ, List.getElem_toArray, List.getElem_cons_succ, List.getElem_cons_zero]
                refine wpAnyH_take (i := 10) (v := ?_) rfl (by kernel_rfl) (by kernel_rfl) (by kernel_rfl) (fun _ _ _ h => h) (Or.inl ⟨by rfl, ?_⟩) (by assumption) ?_
                rotate_left
                · intro w hSw; (try dsimp only at hSw); (try simp only [List.getElem_toArray, List.getElem_cons_succ, List.getElem_cons_zero]); go_simp; try with_reducible rfl
                try simp only [Act.put, List.setIfInBounds_toArray, List.set_cons_zero, List.set_cons_succ, List.getElem_toArray, List.getElem_cons_succ, List.getElem_cons_zero]
                refine wpAnyH_take (i := 11) (v := ?_) rfl (by kernel_rfl) (by kernel_rfl) (by kernel_rfl) (fun _ _ _ h => h) (Or.inl ⟨by rfl, ?_⟩) (by assumption) ?_
                rotate_left
                · intro w hSw; (try dsimp only at hSw); (try simp only [List.getElem_toArray, List.getElem_cons_succ, List.getElem_cons_zero]); go_simp; try with_reducible rfl
                try simp only [Act.put, List.setIfInBounds_toArray, List.set_cons_zero, List.set_cons_succ, List.getElem_toArray, List.getElem_cons_succ, List.getElem_cons_zero]
                refine wpAnyH_take (i := 12) (v := ?_) rfl (by kernel_rfl) (by kernel_rfl) (by kernel_rfl) (fun _ _ _ h => h) (Or.inl ⟨by rfl, ?_⟩) (by assumption) ?_
                rotate_left
                · intro w hSw; (try dsimp only at hSw); (try simp only [List.getElem_toArray, List.getElem_cons_succ, List.getElem_cons_zero]); go_simp; try with_reducible rfl
                try simp only [Act.put, List.setIfInBounds_toArray, List.set_cons_zero, List.set_cons_succ, List.getElem_toArray, List.getElem_cons_succ, List.getElem_cons_zero]
                refine wpAnyH_take (i := 13) (v := ?_) rfl (by kernel_rfl) (by kernel_rfl) (by kernel_rfl) (fun _ _ _ h => h) (Or.inl ⟨by rfl, ?_⟩) (by assumption) ?_
                rotate_left
                · intro w hSw; (try dsimp only at hSw); (try simp only [List.getElem_toArray, List.getElem_cons_succ, List.getElem_cons_zero]); go_simp; try with_reducible rfl
                try simp only [Act.put, List.setIfInBounds_toArray, List.set_cons_zero, List.set_cons_succ, List.getElem_toArray, List.getElem_cons_succ, List.getElem_cons_zero]
                refine wpAnyH_take (i := 14) (v := ?_) rfl (by kernel_rfl) (by kernel_rfl) (by kernel_rfl) (fun _ _ _ h => h) (Or.inl ⟨by rfl, ?_⟩) (by assumption) ?_
                rotate_left
                · intro w hSw; (try dsimp only at hSw); (try simp only [List.getElem_toArray, List.getElem_cons_succ, List.getElem_cons_zero]); go_simp; try with_reducible rfl
                try simp only [Act.put, List.setIfInBounds_toArray, List.set_cons_zero, List.set_cons_succ, List.getElem_toArray, List.getElem_cons_succ, List.getElem_cons_zero]
                refine wpAnyH_take (i := 16) (v := ?_) rfl (by kernel_rfl) (by kernel_rfl) (by kernel_rfl) (fun _ _ _ h => h) (Or.inl ⟨by rfl, ?_⟩) (by assumption) ?_
                rotate_left
                · intro w hSw; (try dsimp only at hSw); (try simp only [List.getElem_toArray, List.getElem_cons_succ, List.getElem_cons_zero]); go_simp; try with_reducible rfl
                try simp only [Act.put, List.setIfInBounds_toArray, List.set_cons_zero, List.set_cons_succ, List.getElem_toArray, List.getElem_cons_succ, List.getElem_cons_zero]
                refine wpAnyH_take (i := 17) (v := ?_) rfl (by kernel_rfl) (by kernel_rfl) (by kernel_rfl) (fun _ _ _ h => h) (Or.inl ⟨by rfl, ?_⟩) (by assumption) ?_
                rotate_left
                · intro w hSw; (try dsimp only at hSw); (try simp only [List.getElem_toArray, List.getElem_cons_succ, List.getElem_cons_zero]); go_simp; try with_reducible rfl
                try simp only [Act.put, List.setIfInBounds_toArray, List.set_cons_zero, List.set_cons_succ, List.getElem_toArray, List.getElem_cons_succ, List.getElem_cons_zero]
                refine wpAnyH_ready (rs := [15]) (by kernel_rfl) (by simp) ?_
                refine AllReadyH.cons rfl (fun K hK => ?_) AllReadyH.nil
                (try simp only [List.getElem_toArray, List.getElem_cons_succ, List.getElem_cons_zero])
                go_simp
                go_at_call 15; (with_reducible refine (qm.out _ (hS2.out _ (by assumption))).mono ?_); rintro e wq ⟨rfl, hpwq⟩; go_wp2_with fail
                refine hK.out _ _ ?_ (fun hHeld => ?_)
                · first | assumption | with_reducible exact hst.out | with_reducible exact hS.out _ (Pure.then_ (hS3.out _ (by assumption)) (by assumption))
                clear hK K
                try simp only [Act.put, List.setIfInBounds_toArray, List.set_cons_zero, List.set_cons_succ, List.getElem_toArray, List.getElem_cons_succ, List.getElem_cons_zero]
                refine wpAnyH_ready (rs := [18]) (by kernel_rfl) (by simp) ?_
                refine AllReadyH.cons rfl (fun K hK => ?_) AllReadyH.nil
                (try simp only [List.getElem_toArray, List.getElem_cons_succ, List.getElem_cons_zero])
                go_simp
                go_at_call 15; (with_reducible refine (qx.out _ (hS2.out _ (by assumption))).mono ?_); rintro e wl ⟨rfl, hpwl⟩; go_wp2_with fail
                refine hK.out _ _ ?_ (fun hHeld => ?_)
                · first | assumption | with_reducible exact hst.out | with_reducible exact hS.out _ (Pure.then_ (hS3.out _ (by assumption)) (by assumption))
                clear hK K
                try simp only [Act.put, List.setIfInBounds_toArray, List.set_cons_zero, List.set_cons_succ, List.getElem_toArray, List.getElem_cons_succ, List.getElem_cons_zero]
                refine wpAnyH_take (i := 19) (v := ?_) rfl (by kernel_rfl) (by kernel_rfl) (by kernel_rfl) (fun _ _ _ h => h) (Or.inl ⟨by rfl, ?_⟩) (by assumption) ?_
                rotate_left
                · intro w hSw; (try dsimp only at hSw); (try simp only [List.getElem_toArray, List.getElem_cons_succ, List.getElem_cons_zero]); go_simp; try with_reducible rfl
                try simp only [Act.put, List.setIfInBounds_toArray, List.set_cons_zero, List.set_cons_succ, List.getElem_toArray, List.getElem_cons_succ, List.getElem_cons_zero]
                refine wpAnyH_take (i := 20) (v := undef) rfl (by kernel_rfl) (by kernel_rfl) (by kernel_rfl) (fun _ _ _ h => h) (Or.inr ⟨by rfl, rfl⟩) (by assumption) ?_
                try simp only [Act.put, List.setIfInBounds_toArray, List.set_cons_zero, List.set_cons_succ, List.getElem_toArray, List.getElem_cons_succ, List.getElem_cons_zero]
                refine wpAnyH_take (i := 21) (v := ?_) rfl (by kernel_rfl) (by kernel_rfl) (by kernel_rfl) (fun _ _ _ h => h) (Or.inl ⟨by rfl, ?_⟩) (by assumption) ?_
                rotate_left
                · intro w hSw; (try dsimp only at hSw); (try simp only [List.getElem_toArray, List.getElem_cons_succ, List.getElem_cons_zero]); go_simp; try with_reducible rfl
                try simp only [Act.put, List.setIfInBounds_toArray, List.set_cons_zero, List.set_cons_succ, List.getElem_toArray, List.getElem_cons_succ, List.getElem_cons_zero]
                refine wpAnyH_take (i := 22) (v := ?_) rfl (by kernel_rfl) (by kernel_rfl) (by kernel_rfl) (fun _ _ _ h => h) (Or.inl ⟨by rfl, ?_⟩) (by assumption) ?_
                rotate_left
                · intro w hSw; (try dsimp only at hSw); (try simp only [List.getElem_toArray, List.getElem_cons_succ, List.getElem_cons_zero]); go_simp; try with_reducible rfl
                try simp only [Act.put, List.setIfInBounds_toArray, List.set_cons_zero, List.set_cons_succ, List.getElem_toArray, List.getElem_cons_succ, List.getElem_cons_zero]
                refine wpAnyH_take (i := 23) (v := ?_) rfl (by kernel_rfl) (by kernel_rfl) (by kernel_rfl) (fun _ _ _ h => h) (Or.inl ⟨by rfl, ?_⟩) (by assumption) ?_
                rotate_left
                · intro w hSw; (try dsimp only at hSw); (try simp only [List.getElem_toArray, List.getElem_cons_succ, List.getElem_cons_zero]); go_simp; try with_reducible rfl
                try simp only [Act.put, List.setIfInBounds_toArray, List.set_cons_zero, List.set_cons_succ, List.getElem_toArray, List.getElem_cons_succ, List.getElem_cons_zero]
                refine wpAnyH_done (by kernel_rfl) ?_ _
                have hx := hid (hdone.out wl (hS3.out wl (by assumption)))
                clear hpwl hst hS hS2 hS3
                go_wp2
                go_roundw
                case rel => exact ⟨s + 1, by omega, by omega, by go_num, hx.out⟩
                case measure => simp [RowKit.intOf]; omega
              | false =>
                simp only [Bool.false_or] at qj qm
                go_wp2_with fail
                refine wp_region_held_drew (S := (fun W => W.cell? ⟨nx, 0, none⟩ = some x0 ∧ W.cell? ⟨nx, 1, none⟩ = some x1 ∧ W.cell? ⟨ny, 0, none⟩ = some y0 ∧ W.cell? ⟨ny, 1, none⟩ = some y1 ∧ W.cell? ⟨nj, 0, none⟩ = some j0 ∧ W.cell? ⟨nj, 1, none⟩ = some j1 ∧ W.cell? ⟨nm, 0, none⟩ = some m0 ∧ W.cell? ⟨nm, 1, none⟩ = some m1 ∧ W.cell? ⟨ne, 0, none⟩ = some (.int .i64 d1) ∧ W.cell? ⟨ne, 1, none⟩ = some (.int .i64 ey) ∧ Pure w9 W)) (by kernel_rfl) ?_ (fun hHeld => ?_)
                · first | assumption | with_reducible exact hst.out | with_reducible exact hS.out _ (Pure.then_ (hS3.out _ (by assumption)) (by assumption))
                refine wpAnyH_take (i := 0) (v := ?_) rfl (by kernel_rfl) (by kernel_rfl) (by kernel_rfl) (fun _ _ _ h => h) (Or.inl ⟨by rfl, ?_⟩) (by assumption) ?_
                rotate_left
                · intro w hSw; (try dsimp only at hSw); (try simp only [List.getElem_toArray, List.getElem_cons_zero]); go_simp; try with_reducible rfl
                try simp only [Act.put, List.setIfInBounds_toArray, List.set_cons_zero, List.set_cons_succ, List.getElem_toArray, List.getElem_cons_zero]
                refine wpAnyH_take (i := 1) (v := ?_) rfl (by kernel_rfl) (by kernel_rfl) (by kernel_rfl) (fun _ _ _ h => h) (Or.inl ⟨by rfl, ?_⟩) (by assumption) ?_
                rotate_left
                · intro w hSw; (try dsimp only at hSw); (try simp only [List.getElem_toArray, List.getElem_cons_succ, List.getElem_cons_zero]); go_simp; try with_reducible rfl
                try simp only [Act.put, List.setIfInBounds_toArray, List.set_cons_zero, List.set_cons_succ, List.getElem_toArray, List.getElem_cons_succ, List.getElem_cons_zero]
                refine wpAnyH_take (i := 3) (v := ?_) rfl (by kernel_rfl) (by kernel_rfl) (by kernel_rfl) (fun _ _ _ h => h) (Or.inl ⟨by rfl, ?_⟩) (by assumption) ?_
                rotate_left
                · intro w hSw; (try dsimp only at hSw); (try simp only [List.getElem_toArray, List.getElem_cons_succ, List.getElem_cons_zero]); go_simp; try with_reducible rfl
                try simp only [Act.put, List.setIfInBounds_toArray, List.set_cons_zero, List.set_cons_succ, List.getElem_toArray, List.getElem_cons_succ, List.getElem_cons_zero]
                refine wpAnyH_take (i := 4) (v := ?_) rfl (by kernel_rfl) (by kernel_rfl) (by kernel_rfl) (fun _ _ _ h => h) (Or.inl ⟨by rfl, ?_⟩) (by assumption) ?_
                rotate_left
                · intro w hSw; (try dsimp only at hSw); (try simp only [List.getElem_toArray, List.getElem_cons_succ, List.getElem_cons_zero]); go_simp; try with_reducible rfl
                try simp only [Act.put, List.setIfInBounds_toArray, List.set_cons_zero, List.set_cons_succ, List.getElem_toArray, List.getElem_cons_succ, List.getElem_cons_zero]
                refine wpAnyH_ready (rs := [2]) (by kernel_rfl) (by simp) ?_
                refine AllReadyH.cons rfl (fun K hK => ?_) AllReadyH.nil
                (try simp only [List.getElem_toArray, List.getElem_cons_succ, List.getElem_cons_zero])
                go_simp
                go_at_call 15; (with_reducible refine (qj.out _ (hS2.out _ (by assumption))).mono ?_); rintro e wq ⟨rfl, hpwq⟩; go_wp2_with fail
                refine hK.out _ _ ?_ (fun hHeld => ?_)
                · first | assumption | with_reducible exact hst.out | with_reducible exact hS.out _ (Pure.then_ (hS3.out _ (by assumption)) (by assumption))
                clear hK K
                try simp only [Act.put, List.setIfInBounds_toArray, List.set_cons_zero, List.set_cons_succ, List.getElem_toArray, List.getElem_cons_succ, List.getElem_cons_zero]
                refine wpAnyH_ready (rs := [5]) (by kernel_rfl) (by simp) ?_
                refine AllReadyH.cons rfl (fun K hK => ?_) AllReadyH.nil
                (try simp only [List.getElem_toArray, List.getElem_cons_succ, List.getElem_cons_zero])
                go_simp
                go_at_call 15; (with_reducible refine (qx.out _ (hS2.out _ (by assumption))).mono ?_); rintro e wq ⟨rfl, hpwq⟩; go_wp2_with fail
                refine hK.out _ _ ?_ (fun hHeld => ?_)
                · first | assumption | with_reducible exact hst.out | with_reducible exact hS.out _ (Pure.then_ (hS3.out _ (by assumption)) (by assumption))
                clear hK K
                try simp only [Act.put, List.setIfInBounds_toArray, List.set_cons_zero, List.set_cons_succ, List.getElem_toArray, List.getElem_cons_succ, List.getElem_cons_zero]
                refine wpAnyH_take (i := 6) (v := ?_) rfl (by kernel_rfl) (by kernel_rfl) (by kernel_rfl) (fun _ _ _ h => h) (Or.inl ⟨by rfl, ?_⟩) (by assumption) ?_
                rotate_left
                · intro w hSw; (try dsimp only at hSw); (try simp only [List.getElem_toArray, List.getElem_cons_succ, List.getElem_cons_zero]); go_simp; try with_reducible rfl
                try simp only [Act.put, List.setIfInBounds_toArray, List.set_cons_zero, List.set_cons_succ, List.getElem_toArray, List.getElem_cons_succ, List.getElem_cons_zero]
                refine wpAnyH_take (i := 7) (v := ?_) rfl (by kernel_rfl) (by kernel_rfl) (by kernel_rfl) (fun _ _ _ h => h) (Or.inl ⟨by rfl, ?_⟩) (by assumption) ?_
                rotate_left
                · intro w hSw; (try dsimp only at hSw); (try simp only [List.getElem_toArray, List.getElem_cons_succ, List.getElem_cons_zero]); go_simp; try with_reducible rfl
                try simp only [Act.put, List.setIfInBounds_toArray, List.set_cons_zero, List.set_cons_succ, List.getElem_toArray, List.getElem_cons_succ, List.getElem_cons_zero]
                refine wpAnyH_take (i := 8) (v := ?_) rfl (by kernel_rfl) (by kernel_rfl) (by kernel_rfl) (fun _ _ _ h => h) (Or.inl ⟨by rfl, ?_⟩) (by assumption) ?_
                rotate_left
                · intro w hSw; (try dsimp only at hSw); (try simp only [List.getElem_toArray, List.getElem_cons_succ, List.getElem_cons_zero]); go_simp; try with_reducible rfl
                try simp only [Act.put, List.setIfInBounds_toArray, List.set_cons_zero, List.set_cons_succ, List.getElem_toArray, List.getElem_cons_succ, List.getElem_cons_zero]
                refine wpAnyH_ready (rs := [9]) (by kernel_rfl) (by simp) ?_
                refine AllReadyH.cons rfl (fun K hK => ?_) AllReadyH.nil
                (try simp only [List.getElem_toArray, List.getElem_cons_succ, List.getElem_cons_zero])
                go_simp
                go_at_call 15; (with_reducible refine (qy.out _ (hS2.out _ (by assumption))).mono ?_); rintro e wq ⟨rfl, hpwq⟩; go_wp2_with fail
                refine hK.out _ _ ?_ (fun hHeld => ?_)
                · first | assumption | with_reducible exact hst.out | with_reducible exact hS.out _ (Pure.then_ (hS3.out _ (by assumption)) (by assumption))
                clear hK K
                try simp only [Act.put, List.setIfInBounds_toArray, List.set_cons_zero, List.set_cons_succ, List.getElem_toArray, List.getElem_cons_succ, List.getElem_cons_zero]
                refine wpAnyH_take (i := 10) (v := ?_) rfl (by kernel_rfl) (by kernel_rfl) (by kernel_rfl) (fun _ _ _ h => h) (Or.inl ⟨by rfl, ?_⟩) (by assumption) ?_
                rotate_left
                · intro w hSw; (try dsimp only at hSw); (try simp only [List.getElem_toArray, List.getElem_cons_succ, List.getElem_cons_zero]); go_simp; try with_reducible rfl
                try simp only [Act.put, List.setIfInBounds_toArray, List.set_cons_zero, List.set_cons_succ, List.getElem_toArray, List.getElem_cons_succ, List.getElem_cons_zero]
                refine wpAnyH_take (i := 11) (v := ?_) rfl (by kernel_rfl) (by kernel_rfl) (by kernel_rfl) (fun _ _ _ h => h) (Or.inl ⟨by rfl, ?_⟩) (by assumption) ?_
                rotate_left
                · intro w hSw; (try dsimp only at hSw); (try simp only [List.getElem_toArray, List.getElem_cons_succ, List.getElem_cons_zero]); go_simp; try with_reducible rfl
                try simp only [Act.put, List.setIfInBounds_toArray, List.set_cons_zero, List.set_cons_succ, List.getElem_toArray, List.getElem_cons_succ, List.getElem_cons_zero]
                refine wpAnyH_take (i := 12) (v := ?_) rfl (by kernel_rfl) (by kernel_rfl) (by kernel_rfl) (fun _ _ _ h => h) (Or.inl ⟨by rfl, ?_⟩) (by assumption) ?_
                rotate_left
                · intro w hSw; (try dsimp only at hSw); (try simp only [List.getElem_toArray, List.getElem_cons_succ, List.getElem_cons_zero]); go_simp; try with_reducible rfl
                try simp only [Act.put, List.setIfInBounds_toArray, List.set_cons_zero, List.set_cons_succ, List.getElem_toArray, List.getElem_cons_succ, List.getElem_cons_zero]
                refine wpAnyH_take (i := 13) (v := ?_) rfl (by kernel_rfl) (by kernel_rfl) (by kernel_rfl) (fun _ _ _ h => h) (Or.inl ⟨by rfl, ?_⟩) (by assumption) ?_
                rotate_left
                · intro w hSw; (try dsimp only at hSw); (try simp only [List.getElem_toArray, List.getElem_cons_succ, List.getElem_cons_zero]); go_simp; try with_reducible rfl
                try simp only [Act.put, List.setIfInBounds_toArray, List.set_cons_zero, List.set_cons_succ, List.getElem_toArray, List.getElem_cons_succ, List.getElem_cons_zero]
                refine wpAnyH_take (i := 14) (v := ?_) rfl (by kernel_rfl) (by kernel_rfl) (by kernel_rfl) (fun _ _ _ h => h) (Or.inl ⟨by rfl, ?_⟩) (by assumption) ?_
                rotate_left
                · intro w hSw; (try dsimp only at hSw); (try simp only [List.getElem_toArray, List.getElem_cons_succ, List.getElem_cons_zero]); go_simp; try with_reducible rfl
                try simp only [Act.put, List.setIfInBounds_toArray, List.set_cons_zero, List.set_cons_succ, List.getElem_toArray, List.getElem_cons_succ, List.getElem_cons_zero]
                refine wpAnyH_take (i := 16) (v := ?_) rfl (by kernel_rfl) (by kernel_rfl) (by kernel_rfl) (fun _ _ _ h => h) (Or.inl ⟨by rfl, ?_⟩) (by assumption) ?_
                rotate_left
                · intro w hSw; (try dsimp only at hSw); (try simp only [List.getElem_toArray, List.getElem_cons_succ, List.getElem_cons_zero]); go_simp; try with_reducible rfl
                try simp only [Act.put, List.setIfInBounds_toArray, List.set_cons_zero, List.set_cons_succ, List.getElem_toArray, List.getElem_cons_succ, List.getElem_cons_zero]
                refine wpAnyH_take (i := 17) (v := ?_) rfl (by kernel_rfl) (by kernel_rfl) (by kernel_rfl) (fun _ _ _ h => h) (Or.inl ⟨by rfl, ?_⟩) (by assumption) ?_
                rotate_left
                · intro w hSw; (try dsimp only at hSw); (try simp only [List.getElem_toArray, List.getElem_cons_succ, List.getElem_cons_zero]); go_simp; try with_reducible rfl
                try simp only [Act.put, List.setIfInBounds_toArray, List.set_cons_zero, List.set_cons_succ, List.getElem_toArray, List.getElem_cons_succ, List.getElem_cons_zero]
                refine wpAnyH_ready (rs := [15]) (by kernel_rfl) (by simp) ?_
                refine AllReadyH.cons rfl (fun K hK => ?_) AllReadyH.nil
                (try simp only [List.getElem_toArray, List.getElem_cons_succ, List.getElem_cons_zero])
                go_simp
                go_at_call 15; (with_reducible refine (qm.out _ (hS2.out _ (by assumption))).mono ?_); rintro e wq ⟨rfl, hpwq⟩; go_wp2_with fail
                refine hK.out _ _ ?_ (fun hHeld => ?_)
                · first | assumption | with_reducible exact hst.out | with_reducible exact hS.out _ (Pure.then_ (hS3.out _ (by assumption)) (by assumption))
                clear hK K
                try simp only [Act.put, List.setIfInBounds_toArray, List.set_cons_zero, List.set_cons_succ, List.getElem_toArray, List.getElem_cons_succ, List.getElem_cons_zero]
                refine wpAnyH_ready (rs := [18]) (by kernel_rfl) (by simp) ?_
                refine AllReadyH.cons rfl (fun K hK => ?_) AllReadyH.nil
                (try simp only [List.getElem_toArray, List.getElem_cons_succ, List.getElem_cons_zero])
                go_simp
                go_at_call 15; (with_reducible refine (qx.out _ (hS2.out _ (by assumption))).mono ?_); rintro e wl ⟨rfl, hpwl⟩; go_wp2_with fail
                refine hK.out _ _ ?_ (fun hHeld => ?_)
                · first | assumption | with_reducible exact hst.out | with_reducible exact hS.out _ (Pure.then_ (hS3.out _ (by assumption)) (by assumption))
                clear hK K
                try simp only [Act.put, List.setIfInBounds_toArray, List.set_cons_zero, List.set_cons_succ, List.getElem_toArray, List.getElem_cons_succ, List.getElem_cons_zero]
                refine wpAnyH_take (i := 19) (v := ?_) rfl (by kernel_rfl) (by kernel_rfl) (by kernel_rfl) (fun _ _ _ h => h) (Or.inl ⟨by rfl, ?_⟩) (by assumption) ?_
                rotate_left
                · intro w hSw; (try dsimp only at hSw); (try simp only [List.getElem_toArray, List.getElem_cons_succ, List.getElem_cons_zero]); go_simp; try with_reducible rfl
                try simp only [Act.put, List.setIfInBounds_toArray, List.set_cons_zero, List.set_cons_succ, List.getElem_toArray, List.getElem_cons_succ, List.getElem_cons_zero]
                refine wpAnyH_take (i := 20) (v := ?_) rfl (by kernel_rfl) (by kernel_rfl) (by kernel_rfl) (fun _ _ _ h => h) (Or.inl ⟨by rfl, ?_⟩) (by assumption) ?_
                rotate_left
                · intro w hSw; (try dsimp only at hSw); (try simp only [List.getElem_toArray, List.getElem_cons_succ, List.getElem_cons_zero]); go_simp; try with_reducible rfl
                try simp only [Act.put, List.setIfInBounds_toArray, List.set_cons_zero, List.set_cons_succ, List.getElem_toArray, List.getElem_cons_succ, List.getElem_cons_zero]
                refine wpAnyH_take (i := 21) (v := ?_) rfl (by kernel_rfl) (by kernel_rfl) (by kernel_rfl) (fun _ _ _ h => h) (Or.inl ⟨by rfl, ?_⟩) (by assumption) ?_
                rotate_left
                · intro w hSw; (try dsimp only at hSw); (try simp only [List.getElem_toArray, List.getElem_cons_succ, List.getElem_cons_zero]); go_simp; try with_reducible rfl
                try simp only [Act.put, List.setIfInBounds_toArray, List.set_cons_zero, List.set_cons_succ, List.getElem_toArray, List.getElem_cons_succ, List.getElem_cons_zero]
                refine wpAnyH_take (i := 22) (v := ?_) rfl (by kernel_rfl) (by kernel_rfl) (by kernel_rfl) (fun _ _ _ h => h) (Or.inl ⟨by rfl, ?_⟩) (by assumption) ?_
                rotate_left
                · intro w hSw; (try dsimp only at hSw); (try simp only [List.getElem_toArray, List.getElem_cons_succ, List.getElem_cons_zero]); go_simp; try with_reducible rfl
                try simp only [Act.put, List.setIfInBounds_toArray, List.set_cons_zero, List.set_cons_succ, List.getElem_toArray, List.getElem_cons_succ, List.getElem_cons_zero]
                refine wpAnyH_take (i := 23) (v := ?_) rfl (by kernel_rfl) (by kernel_rfl) (by kernel_rfl) (fun _ _ _ h => h) (Or.inl ⟨by rfl, ?_⟩) (by assumption) ?_
                rotate_left
                · intro w hSw; (try dsimp only at hSw); (try simp only [List.getElem_toArray, List.getElem_cons_succ, List.getElem_cons_zero]); go_simp; try with_reducible rfl
                try simp only [Act.put, List.setIfInBounds_toArray, List.set_cons_zero, List.set_cons_succ, List.getElem_toArray, List.getElem_cons_succ, List.getElem_cons_zero]
                refine wpAnyH_done (by kernel_rfl) ?_ _
                have hx := hid (hdone.out wl (hS3.out wl (by assumption)))
                clear hpwl hst hS hS2 hS3
                go_wp2
                go_roundw
                case rel => exact ⟨s + 1, by omega, by omega, by go_num, hx.out⟩
                case measure => simp [RowKit.intOf]; omega
        · have hs' : ¬ s ≤ 1 := hs
          clear hp2
          go_wp2
          go_roundw
          case rel => exact ⟨k + 1, by omega, by go_num, Hpo.out.then_ Hp2.out⟩
          case measure => simp [RowKit.intOf]; omega
    · obtain rfl : k = L'.length := by omega
      have hlt' : ¬ (L'.length : Int) < (L'.length : Int) := by omega
      clear hp
      go_wp2
      go_ret
      exact ⟨rfl, Hpw.out _ Hp.out⟩
end Go.Proofs.Ytimcjkimehhgcaa
