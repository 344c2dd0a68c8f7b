/- CtxMakes. -/
import Derived.Test.YtimcjkimehhgcaaLC
import Derived.Deep.CutRange
namespace Go.Proofs.Ytimcjkimehhgcaa
open Go.RowKit Go.Maps Go.Shelf Go.Sort

section
variable {x0 x1 : Value} {X : List Dot × List Dot} {m : Nat} {W : World}
def Ad (X : List Dot × List Dot) (l : List Dot) : List Dot × List Dot := cjoin X.1 X.2 [] (dsort (l.filter dchk))
theorem addB {v : Value} {l : List Dot} (hx : CR x0 x1 X W) (hv : Dots W v l) (sx : Sml m X) (hl : 2 * m + l.length ≤ 1000) :
    Calls Try.prog 12 #[.agg #[x0, x1], v] W (CtxO W (Ad X l)) :=
  (add_any x0 x1 v X.1 X.2 l W hx.1 hx.2 hv (by have := sx.l0; have := sx.l1; omega) sx.j).mono fun _ _ ⟨v0, v1, he, h0, h1, hp, _⟩ => ⟨v0, v1, he, ⟨h0, h1⟩, hp⟩
theorem raddB {v : Value} {l : List Dot} (hx : CR x0 x1 X W) (hv : Dots W v l) (sx : Sml m X) (hl : 2 * m + l.length ≤ 1000) :
    Calls Try.prog 29 #[.agg #[x0, x1], v] W (CtxO W (Ad X l)) :=
  (radd_any x0 x1 v X.1 X.2 l W hx.1 hx.2 hv (by have := sx.l0; have := sx.l1; omega) sx.bd).mono fun _ _ ⟨v0, v1, he, h0, h1, hp, _⟩ => ⟨v0, v1, he, ⟨h0, h1⟩, hp⟩
def Pt (X : List Dot × List Dot) (node : Int) : List Dot × List Dot := (onode X.1 node, onode X.2 node)
theorem partB (node : Int) (hx : CR x0 x1 X W) (sx : Sml m X) (hl : m ≤ 1000) :
    Calls Try.prog 30 #[.agg #[x0, x1], .int .i64 node] W (CtxO W (Pt X node)) :=
  (part_any x0 x1 X.1 X.2 node W hx.1 hx.2 (by have := sx.l0; omega) (by have := sx.l1; omega)).mono fun _ _ ⟨v0, v1, he, h0, h1, hp, _⟩ => ⟨v0, v1, he, ⟨h0, h1⟩, hp⟩
theorem rpartB (node : Int) (hx : CR x0 x1 X W) (sx : Sml m X) (hl : m ≤ 1000) :
    Calls Try.prog 31 #[.agg #[x0, x1], .int .i64 node] W (CtxO W (Pt X node)) :=
  (rpart_any x0 x1 X.1 X.2 node W hx.1 hx.2 (by have := sx.l0; omega) (by have := sx.l1; omega)).mono fun _ _ ⟨v0, v1, he, h0, h1, hp, _⟩ => ⟨v0, v1, he, ⟨h0, h1⟩, hp⟩
theorem hasB (d : Dot) (hx : CR x0 x1 X W) (sx : Sml m X) (hl : m ≤ 1000) :
    Calls Try.prog 15 #[.agg #[x0, x1], .agg #[.int .i64 d.1, .int .i64 d.2]] W fun e w' => e = .returned (.bool (chas X.1 X.2 d)) ∧ Pure W w' :=
  has_any x0 x1 X.1 X.2 d W hx.1 hx.2 sx.j.sb sx.ok.cr (fun d hd => (sx.bd d hd).1) (by have := sx.l0; omega) (by have := sx.l1; omega)
theorem nextB (node : Int) (hx : CR x0 x1 X W) (sx : Sml m X) (hl : m ≤ 1000) :
    Calls Try.prog 24 #[.agg #[x0, x1], .int .i64 node] W fun e w' => e = .returned (.agg #[.int .i64 node, .int .i64 (cnx X.1 X.2 node + 1)]) ∧ Pure W w' :=
  next_any x0 x1 X.1 X.2 node W hx.1 hx.2 (by have := sx.l0; omega) (by have := sx.l1; omega) sx.j sx.ok.cr
theorem bytesB (hx : CR x0 x1 X W) (sx : Sml m X) (hl : m ≤ 1000) :
    Calls Try.prog 26 #[.agg #[x0, x1]] W fun e w' => e = .returned (.string (bs (ctxB X.1 X.2))) ∧ Pure W w' :=
  rcbytes_any x0 x1 X.1 X.2 W hx.1 hx.2 (fun d hd => by have := sx.ok.bok d hd; unfold dok at this; unfold Small; omega) (fun d hd => by have := sx.ok.cok d hd; unfold dok at this; unfold Small; omega) (by have := sx.l0; omega) (by have := sx.l1; omega)
end

set_option maxRecDepth 8000 in
set_option maxHeartbeats 8000000 in
theorem makes_walk (va vb vc vd : Value) (A0 A1 B0 B1 : List Dot) (vl : Value) (L : List Dot) (w : World) (h1 : Dots w va A0) (h2 : Dots w vb A1) (h3 : Dots w vc B0) (h4 : Dots w vd B1) (h5 : Dots w vl L) :
    Calls Try.prog 5 #[.agg #[va, vb], .agg #[vc, vd], vl] w fun e w' => e = .returned (.bool true) ∧ Pure w w' := by
  obtain ⟨we, hwz, Hpe, hS0⟩ := box2 w va vb vc vd
  have HS0 := hid (fun W (hW : Pure we W) => hS0.out W hW)
  have Hma := hid (fun W (hW : Pure we W) => made_any va vb A0 A1 W (Row.pure h1 (Hpe.out.then_ hW)) (Row.pure h2 (Hpe.out.then_ hW)))
  have Hmb := hid (fun W (hW : Pure we W) => made_any vc vd B0 B1 W (Row.pure h3 (Hpe.out.then_ hW)) (Row.pure h4 (Hpe.out.then_ hW)))
  have HL := hid (fun W (hW : Pure we W) => (Row.pure h5 (Hpe.out.then_ hW) : Dots W vl L))
  have SX := hid (Sml.made A0 A1)
  have SY := hid (Sml.made B0 B1)
  unfold CtxF cv at Hma Hmb
  generalize madeC A0 A1 = X at *
  generalize madeC B0 B1 = Y at *
  obtain ⟨al, cl, rfl⟩ := h5.shape
  have hLl := h5.len_le
  unfold maxLen at hLl
  have hLc : L.length ≤ cl ∧ cl ≤ maxLen := by
    obtain ⟨_, a', c', e, q1, q2, _⟩ := h5
    cases e; exact ⟨q1, q2⟩
  unfold maxLen at hLc
  clear h1 h2 h3 h4 h5 hS0
  go_enter Try.func5, Try.ntmps5
  go_wp2_with fail
  rw [← hwz]
  clear hwz
  refine (awake_any we).mono ?_
  rintro e w1 ⟨rfl, hp1⟩
  have Hp1 := hid hp1
  obtain ⟨f0, f1, f2, f3, _⟩ := HS0.out w1 hp1
  clear hp1
  go_wp2_with fail
  refine (Hma.out w1 Hp1.out).mono ?_
  rintro e wxa ⟨x0, x1, rfl, hx0, hx1, hpxa, _, _⟩
  have Cx := hid (CB.made (w := wxa) (X := X) hx0 hx1)
  obtain ⟨ax0, cx0, rfl⟩ := hx0.shape
  obtain ⟨ax1, cx1, rfl⟩ := hx1.shape
  obtain ⟨wx, hwx⟩ : ∃ wx, wx = wxa.alloc (.cells #[.slice ax0 X.1.length cx0, .slice ax1 X.2.length cx1] 24) := ⟨_, rfl⟩
  have hpxb : Pure wxa wx := by rw [hwx]; exact (Below.refl _ _).alloc (Nat.le_refl _) _
  have hpxc := hid (hpxa.then_ hpxb)
  have Hpx := hid (Hp1.out.then_ hpxc.out)
  rw [← hwx] at Cx
  clear hpxa hpxb hx0 hx1
  clear f0 f1 f2 f3
  obtain ⟨f0, f1, f2, f3, _⟩ := HS0.out wx Hpx.out
  rw [hwx] at f0 f1 f2 f3
  go_wp2_with fail
  rw [← hwx]
  clear hwx f0 f1 f2 f3
  refine (Hmb.out wx Hpx.out).mono ?_
  rintro e wya ⟨y0, y1, rfl, hy0, hy1, hpya, _, _⟩
  have Cy := hid (CB.made (w := wya) (X := Y) hy0 hy1)
  obtain ⟨ay0, cy0, rfl⟩ := hy0.shape
  obtain ⟨ay1, cy1, rfl⟩ := hy1.shape
  obtain ⟨wy, hwy⟩ : ∃ wy, wy = wya.alloc (.cells #[.slice ay0 Y.1.length cy0, .slice ay1 Y.2.length cy1] 24) := ⟨_, rfl⟩
  have hpyb : Pure wya wy := by rw [hwy]; exact (Below.refl _ _).alloc (Nat.le_refl _) _
  have hpyc := hid (hpya.then_ hpyb)
  have Hpy := hid (Hpx.out.then_ hpyc.out)
  rw [← hwy] at Cy
  clear hpya hpyb hy0 hy1
  have Cx2 := hid (Cx.out.pure hpyc.out)
  clear Cx Hma Hmb HS0
  generalize hnx : wxa.heap.size = nx at *
  generalize hny : wya.heap.size = ny at *
  generalize Value.slice ax0 X.1.length cx0 = x0 at *
  generalize Value.slice ax1 X.2.length cx1 = x1 at *
  go_upto_if 22 with fail
  rw [← hwy]
  clear hwy hnx hny
  generalize Value.slice ay0 Y.1.length cy0 = y0 at *
  generalize Value.slice ay1 Y.2.length cy1 = y1 at *
  have Hle := hid (hpxc.out.then_ hpyc.out)
  have HLy := hid (HL.out wy Hpy.out)
  go_cut [2] from 20 (fun lv wx => Dots wx lv (L.take 12) ∧ wx = wy)
  case first =>
    by_cases h12 : 12 < L.length
    · have h12' : (12 : Int) < (L.length : Int) := by omega
      have h12c : (12 : Int) ≤ (cl : Int) := by omega
      obtain ⟨bl, ol, rfl⟩ : ∃ bl ol, al = some ⟨bl, ol, none⟩ := by
        obtain ⟨b, off, e, _⟩ := Dots.get HLy.out (k := 0) (by omega)
        exact ⟨b, off, e⟩
      have hT := hid (row_pre HLy.out (k := 12) (by omega))
      have hT2 : Hid (Dots wy (.slice (some ⟨bl, ol, none⟩) 12 cl) (L.take 12)) := by
        show Dots _ _ _
        unfold Dots
        rw [dvs_take, show (L.take 12).length = 12 by rw [List.length_take]; omega]
        exact hT.out
      clear hT
      go_wp2
      go_meet
      case rel => exact ⟨hT2.out, rfl⟩
    · have h12' : ¬ (12 : Int) < (L.length : Int) := by omega
      go_wp2
      go_meet
      case rel => exact ⟨by rw [List.take_of_length_le (by omega)]; exact HLy.out, rfl⟩
  case rest =>
  obtain ⟨hl12, rfl⟩ := hcut
  obtain ⟨a2, c2, rfl⟩ := hl12.shape
  have Hl12 := hid hl12
  have hll : (L.take 12).length ≤ 12 := by rw [List.length_take]; omega
  generalize L.take 12 = L' at *
  clear HL HLy hLl hLc hl12
  go_upto_if 27 with fail
  go_cut [10] from 25 (fun nd wx => (∃ n : Int, nd = .int .i64 n) ∧ wx = wc)
  case first =>
    by_cases h0 : 0 < L'.length
    · have h0' : (0 : Int) < (L'.length : Int) := by omega
      obtain ⟨b, off, rfl, _, g0, _⟩ := Dots.get Hl12.out (k := 0) h0
      simp only [Nat.zero_mul, Nat.add_zero] at g0
      go_wp2
      go_meet
      case rel => exact ⟨⟨_, rfl⟩, rfl⟩
    · have h0' : ¬ (0 : Int) < (L'.length : Int) := by omega
      go_wp2
      go_meet
      case rel => exact ⟨⟨_, rfl⟩, rfl⟩
  case rest =>
  obtain ⟨⟨nd, rfl⟩, rfl⟩ := hcut
  generalize hvl : Value.slice a2 L'.length c2 = vl at *
  clear hvl
  obtain ⟨wy, rfl⟩ : ∃ wy : World, wy = wc := ⟨_, rfl⟩
  have HX := hid (fun W (hW : Pure wy W) => Cx2.out.pure hW)
  have HY := hid (fun W (hW : Pure wy W) => Cy.out.pure hW)
  have HL := hid (fun W (hW : Pure wy W) => (Row.pure Hl12.out hW : Dots W vl L'))
  have Hpw := hid (fun W (hW : Pure wy W) => Hpe.out.then_ (Hpy.out.then_ hW))
  have hS : Hid (∀ W, Pure wy W → (W.cell? ⟨nx, 0, none⟩ = some x0 ∧ W.cell? ⟨nx, 1, none⟩ = some x1 ∧ W.cell? ⟨ny, 0, none⟩ = some y0 ∧ W.cell? ⟨ny, 1, none⟩ = some y1 ∧ Pure wy W)) := fun W hW => ⟨(HX.out W hW).cells.1, (HX.out W hW).cells.2, (HY.out W hW).cells.1, (HY.out W hW).cells.2, hW⟩
  have hS2 : Hid (∀ W : World, (W.cell? ⟨nx, 0, none⟩ = some x0 ∧ W.cell? ⟨nx, 1, none⟩ = some x1 ∧ W.cell? ⟨ny, 0, none⟩ = some y0 ∧ W.cell? ⟨ny, 1, none⟩ = some y1 ∧ Pure wy W) → Pure wy W) := fun W h => h.2.2.2.2
  have q0 := hid (fun W (hW : Pure wy W) => bytesB (HX.out W hW).cr SX.out (by decide))
  have q1 := hid (fun W (hW : Pure wy W) => joinB (HX.out W hW).cr (HY.out W hW).cr SX.out SY.out (by decide))
  have r1 := hid (fun W (hW : Pure wy W) => rjoinB (HX.out W hW).cr (HY.out W hW).cr SX.out SY.out (by decide))
  have q2 := hid (fun W (hW : Pure wy W) => addB (HX.out W hW).cr (HL.out W hW) SX.out (by omega))
  have r2 := hid (fun W (hW : Pure wy W) => raddB (HX.out W hW).cr (HL.out W hW) SX.out (by omega))
  have q3 := hid (fun W (hW : Pure wy W) => partB nd (HX.out W hW).cr SX.out (by decide))
  have r3 := hid (fun W (hW : Pure wy W) => rpartB nd (HX.out W hW).cr SX.out (by decide))
  have q4 := hid (fun W (hW : Pure wy W) => sameB (HX.out W hW).cr (HY.out W hW).cr)
  have r4 := hid (fun W (hW : Pure wy W) => rsameB (HX.out W hW).cr (HY.out W hW).cr)
  have q5 := hid (fun W (hW : Pure wy W) => sameB (HX.out W hW).cr (HX.out W hW).cr)
  have hsm := hid (fun W V v0 v1 u0 u1 (hv : CR v0 v1 V W) (hu : CR u0 u1 V W) => rsameB hv hu)
  simp only [decide_true] at q5 hsm
  unfold CtxO at q1 r1 q2 r2 q3 r3
  generalize decide (X = Y) = bb at *
  generalize bs (ctxB X.1 X.2) = BX at *
  have hbb : (bb == bb) = true := by simp
  obtain ⟨f0, f1, _, _, _⟩ := hS.out wy (Below.refl _ _)
  clear Cx2 Cy SX SY HX HY HL Hl12 Hpx Hpy Hpe Hle hpxc hpyc Hp1 hll
  go_wp2_with fail
  refine (q0.out wy (Below.refl _ _)).mono ?_
  rintro e w0 ⟨rfl, hp0⟩
  have G0 := hid hp0
  clear hp0 f0 f1
  have hst := hid (hS.out w0.drew (G0.out.then_ (Below.refl _ _).drew))
  go_wp2_with fail
  go_region_held3 (fun W => W.cell? ⟨nx, 0, none⟩ = some x0 ∧ W.cell? ⟨nx, 1, none⟩ = some x1 ∧ W.cell? ⟨ny, 0, none⟩ = some y0 ∧ W.cell? ⟨ny, 1, none⟩ = some y1 ∧ Pure wy W)
    (first | assumption | with_reducible exact hst.out | with_reducible exact hS.out _ (Pure.then_ (hS2.out _ (by assumption)) (by assumption)))
    ((first
      | (go_at_call 11; (with_reducible refine (q1.out _ (hS2.out _ (by assumption))).mono ?_); rintro e w1a ⟨v0, v1, rfl, hv, hp1a⟩)
      | (go_at_call 28; (with_reducible refine (r1.out _ (hS2.out _ (by assumption))).mono ?_); rintro e w1b ⟨u0, u1, rfl, hu, hp1b⟩)
      | (go_at_call 27; (refine (hsm.out _ _ _ _ _ _ (hv.pure hp1b) hu).mono ?_); rintro e w1 ⟨rfl, hp1⟩)))
  have G1 := hid (hS2.out w1 (by assumption))
  clear hv hu hp1a hp1b hp1 hst
  have hst := hid (hS.out w1.drew (G1.out.then_ (Below.refl _ _).drew))
  go_wp2_with fail
  go_region_held3 (fun W => W.cell? ⟨nx, 0, none⟩ = some x0 ∧ W.cell? ⟨nx, 1, none⟩ = some x1 ∧ W.cell? ⟨ny, 0, none⟩ = some y0 ∧ W.cell? ⟨ny, 1, none⟩ = some y1 ∧ Pure wy W)
    (first | assumption | with_reducible exact hst.out | with_reducible exact hS.out _ (Pure.then_ (hS2.out _ (by assumption)) (by assumption)))
    ((first
      | (go_at_call 12; (with_reducible refine (q2.out _ (hS2.out _ (by assumption))).mono ?_); rintro e w2a ⟨v0, v1, rfl, hv, hp2a⟩)
      | (go_at_call 29; (with_reducible refine (r2.out _ (hS2.out _ (by assumption))).mono ?_); rintro e w2b ⟨u0, u1, rfl, hu, hp2b⟩)
      | (go_at_call 27; (refine (hsm.out _ _ _ _ _ _ (hv.pure hp2b) hu).mono ?_); rintro e w2 ⟨rfl, hp2⟩)))
  have G2 := hid (hS2.out w2 (by assumption))
  clear hv hu hp2a hp2b hp2 hst
  have hst := hid (hS.out w2.drew (G2.out.then_ (Below.refl _ _).drew))
  go_wp2_with fail
  go_region_held3 (fun W => W.cell? ⟨nx, 0, none⟩ = some x0 ∧ W.cell? ⟨nx, 1, none⟩ = some x1 ∧ W.cell? ⟨ny, 0, none⟩ = some y0 ∧ W.cell? ⟨ny, 1, none⟩ = some y1 ∧ Pure wy W)
    (first | assumption | with_reducible exact hst.out | with_reducible exact hS.out _ (Pure.then_ (hS2.out _ (by assumption)) (by assumption)))
    ((first
      | (go_at_call 30; (with_reducible refine (q3.out _ (hS2.out _ (by assumption))).mono ?_); rintro e w3a ⟨v0, v1, rfl, hv, hp3a⟩)
      | (go_at_call 31; (with_reducible refine (r3.out _ (hS2.out _ (by assumption))).mono ?_); rintro e w3b ⟨u0, u1, rfl, hu, hp3b⟩)
      | (go_at_call 27; (refine (hsm.out _ _ _ _ _ _ (hv.pure hp3b) hu).mono ?_); rintro e w3 ⟨rfl, hp3⟩)))
  have G3 := hid (hS2.out w3 (by assumption))
  clear hv hu hp3a hp3b hp3 hst
  have hst := hid (hS.out w3.drew (G3.out.then_ (Below.refl _ _).drew))
  go_wp2_with fail
  go_region_held3 (fun W => W.cell? ⟨nx, 0, none⟩ = some x0 ∧ W.cell? ⟨nx, 1, none⟩ = some x1 ∧ W.cell? ⟨ny, 0, none⟩ = some y0 ∧ W.cell? ⟨ny, 1, none⟩ = some y1 ∧ Pure wy W)
    (first | assumption | with_reducible exact hst.out | with_reducible exact hS.out _ (Pure.then_ (hS2.out _ (by assumption)) (by assumption)))
    ((first
      | (go_at_call 26; (with_reducible refine (q0.out _ (hS2.out _ (by assumption))).mono ?_); rintro e wq ⟨rfl, hpq⟩)
      | (go_at_call 32; (with_reducible refine (q4.out _ (hS2.out _ (by assumption))).mono ?_); rintro e wq ⟨rfl, hpq⟩)
      | (go_at_call 27; (with_reducible refine (r4.out _ (hS2.out _ (by assumption))).mono ?_); rintro e wq ⟨rfl, hpq⟩)
      | (go_at_call 32; (with_reducible refine (q5.out _ (hS2.out _ (by assumption))).mono ?_); rintro e wl ⟨rfl, hpl⟩)))
  have G4 := hid (Hpw.out wl (hS2.out wl (by assumption)))
  clear hst hpl hS hS2 q0 q1 q2 q3 q4 q5 r1 r2 r3 r4 hsm
  go_wp2
  go_ret
  exact ⟨rfl, G4.out⟩
end Go.Proofs.Ytimcjkimehhgcaa
