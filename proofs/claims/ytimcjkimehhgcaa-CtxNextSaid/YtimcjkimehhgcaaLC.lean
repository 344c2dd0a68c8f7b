/- CtxJoins. -/
import Derived.Test.YtimcjkimehhgcaaLA
namespace Go.Proofs.Ytimcjkimehhgcaa
open Go.RowKit Go.Maps Go.Shelf Go.Sort

/-- Two values that read as a context. -/
def CR (v0 v1 : Value) (X : List Dot × List Dot) (W : World) : Prop := Dots W v0 X.1 ∧ Dots W v1 X.2
theorem CR.pure {v0 v1 : Value} {X : List Dot × List Dot} {W W' : World} (h : CR v0 v1 X W) (hp : Pure W W') : CR v0 v1 X W' := ⟨Row.pure h.1 hp, Row.pure h.2 hp⟩
theorem CB.cr {n : Nat} {v0 v1 : Value} {X : List Dot × List Dot} {W : World} (h : CB n v0 v1 X W) : CR v0 v1 X W := ⟨h.r0, h.r1⟩
/-- A context that was handed back. -/
def CtxO (w : World) (X : List Dot × List Dot) (e : Ending) (w' : World) : Prop := ∃ v0 v1, e = .returned (.agg #[v0, v1]) ∧ CR v0 v1 X w' ∧ Pure w w'
section
variable {x0 x1 y0 y1 : Value} {X Y : List Dot × List Dot} {m n : Nat} {W : World}
theorem joinB (hx : CR x0 x1 X W) (hy : CR y0 y1 Y W) (sx : Sml m X) (sy : Sml n Y) (hl : 2 * m + 2 * n ≤ 1000) :
    Calls Try.prog 11 #[.agg #[x0, x1], .agg #[y0, y1]] W (CtxO W (Jn X Y)) :=
  (join_any x0 x1 y0 y1 X.1 X.2 Y.1 Y.2 W hx.1 hx.2 hy.1 hy.2 (by have := sx.l0; have := sx.l1; have := sy.l0; have := sy.l1; omega) sx.j sy.j).mono fun _ _ ⟨v0, v1, he, h0, h1, hp, _⟩ => ⟨v0, v1, he, ⟨h0, h1⟩, hp⟩
theorem rjoinB (hx : CR x0 x1 X W) (hy : CR y0 y1 Y W) (sx : Sml m X) (sy : Sml n Y) (hl : 2 * m + 2 * n ≤ 1000) :
    Calls Try.prog 28 #[.agg #[x0, x1], .agg #[y0, y1]] W (CtxO W (Jn X Y)) :=
  (rjoin_any x0 x1 y0 y1 X.1 X.2 Y.1 Y.2 W hx.1 hx.2 hy.1 hy.2 (by have := sx.l0; have := sx.l1; have := sy.l0; have := sy.l1; omega) sx.bd sy.bd).mono fun _ _ ⟨v0, v1, he, h0, h1, hp, _⟩ => ⟨v0, v1, he, ⟨h0, h1⟩, hp⟩
theorem dec_ctx (X Y : List Dot × List Dot) : (decide (X.1 = Y.1) && decide (X.2 = Y.2)) = decide (X = Y) := by
  obtain ⟨a, b⟩ := X
  obtain ⟨c, d⟩ := Y
  by_cases h1 : a = c <;> by_cases h2 : b = d <;> simp [h1, h2]
theorem sameB (hx : CR x0 x1 X W) (hy : CR y0 y1 Y W) :
    Calls Try.prog 32 #[.agg #[x0, x1], .agg #[y0, y1]] W fun e w' => e = .returned (.bool (decide (X = Y))) ∧ Pure W w' := by
  rw [← dec_ctx]; exact mcsame_any x0 x1 y0 y1 X.1 X.2 Y.1 Y.2 W hx.1 hx.2 hy.1 hy.2
theorem rsameB (hx : CR x0 x1 X W) (hy : CR y0 y1 Y W) :
    Calls Try.prog 27 #[.agg #[x0, x1], .agg #[y0, y1]] W fun e w' => e = .returned (.bool (decide (X = Y))) ∧ Pure W w' := by
  rw [← dec_ctx]; exact rcsame_any x0 x1 y0 y1 X.1 X.2 Y.1 Y.2 W hx.1 hx.2 hy.1 hy.2
theorem coversB (hx : CR x0 x1 X W) (hy : CR y0 y1 Y W) (sx : Sml m X) (sy : Sml n Y) (hl : 2 * m + 2 * n ≤ 1000) :
    Calls Try.prog 22 #[.agg #[x0, x1], .agg #[y0, y1]] W fun e w' => e = .returned (.bool (decide (Jn X Y = X))) ∧ Pure W w' := by
  rw [← ccov_eq]
  exact covers_any x0 x1 y0 y1 X.1 X.2 Y.1 Y.2 W hx.1 hx.2 hy.1 hy.2 (by have := sx.l0; have := sx.l1; have := sy.l0; have := sy.l1; omega) sx.j sy.j
theorem checkB (hx : CR x0 x1 X W) (sx : Sml m X) (hl : m ≤ 1000) :
    Calls Try.prog 33 #[.agg #[x0, x1]] W fun e w' => e = .returned (.int .i64 0) ∧ Pure W w' :=
  check_any x0 x1 X.1 X.2 W hx.1 hx.2 sx.ok (Nat.le_trans sx.l0 hl) (Nat.le_trans sx.l1 hl)
end
theorem Sml.mono {m n : Nat} {X : List Dot × List Dot} (h : Sml m X) (hn : m ≤ n) : Sml n X := ⟨h.ok, Nat.le_trans h.l0 hn, Nat.le_trans h.l1 hn⟩

set_option maxRecDepth 8000 in
set_option maxHeartbeats 8000000 in
theorem joins_walk (va vb vc vd ve vf : Value) (A0 A1 B0 B1 C0 C1 : List Dot) (w : World) (h1 : Dots w va A0) (h2 : Dots w vb A1) (h3 : Dots w vc B0) (h4 : Dots w vd B1) (h5 : Dots w ve C0) (h6 : Dots w vf C1) :
    Calls Try.prog 6 #[.agg #[va, vb], .agg #[vc, vd], .agg #[ve, vf]] w fun e w' => e = .returned (.bool true) ∧ Pure w w' := by
  obtain ⟨wz, hwz, Hpz, hS0⟩ := box2 w va vb vc vd
  obtain ⟨we, hwe⟩ : ∃ we, we = wz.alloc (.cells #[ve, vf] 24) := ⟨_, rfl⟩
  have hpe : Pure wz we := by rw [hwe]; exact (Below.refl _ _).alloc (Nat.le_refl _) _
  have hse : wz.heap.size = w.heap.size + 1 + 1 := by rw [hwz]; simp
  have hdb : we.heap[w.heap.size + 1 + 1]? = some (.cells #[ve, vf] 24 (0, 0)) := by rw [hwe, ← hse]; exact block_alloc_new _ _
  have Hpe := hid (Hpz.out.then_ hpe)
  have HS0 := hid (fun W (hW : Pure we W) => (show W.cell? ⟨w.heap.size, 0, none⟩ = some va ∧ W.cell? ⟨w.heap.size, 1, none⟩ = some vb ∧ W.cell? ⟨w.heap.size + 1, 0, none⟩ = some vc ∧ W.cell? ⟨w.heap.size + 1, 1, none⟩ = some vd ∧ W.cell? ⟨w.heap.size + 1 + 1, 0, none⟩ = some ve ∧ W.cell? ⟨w.heap.size + 1 + 1, 1, none⟩ = some vf from by
    obtain ⟨g0, g1, g2, g3, _⟩ := hS0.out W (hpe.then_ hW)
    have e0 := (hW.block _ (lt_of_block hdb)).trans hdb
    exact ⟨g0, g1, g2, g3, cell_of_block e0 0, cell_of_block e0 1⟩))
  have Hma := hid (fun W (hW : Pure we W) => made_any va vb A0 A1 W (Row.pure h1 (Hpe.out.then_ hW)) (Row.pure h2 (Hpe.out.then_ hW)))
  have Hmb := hid (fun W (hW : Pure we W) => made_any vc vd B0 B1 W (Row.pure h3 (Hpe.out.then_ hW)) (Row.pure h4 (Hpe.out.then_ hW)))
  have Hmc := hid (fun W (hW : Pure we W) => made_any ve vf C0 C1 W (Row.pure h5 (Hpe.out.then_ hW)) (Row.pure h6 (Hpe.out.then_ hW)))
  have SX := hid (Sml.made A0 A1)
  have SY := hid (Sml.made B0 B1)
  have SZ := hid (Sml.made C0 C1)
  unfold CtxF cv at Hma Hmb Hmc
  generalize madeC A0 A1 = X at *
  generalize madeC B0 B1 = Y at *
  generalize madeC C0 C1 = Z at *
  clear h1 h2 h3 h4 h5 h6 hS0 hdb hpe hse
  go_enter Try.func6, Try.ntmps6
  go_wp2_with fail
  rw [← hwz, ← hwe]
  clear hwz hwe
  refine (awake_any we).mono ?_
  rintro e w1 ⟨rfl, hp1⟩
  have Hp1 := hid hp1
  obtain ⟨f0, f1, f2, f3, f4, f5⟩ := HS0.out w1 hp1
  clear hp1
  go_wp2_with fail
  refine (Hma.out w1 Hp1.out).mono ?_
  rintro e wxa ⟨x0, x1, rfl, hx0, hx1, hpxa, _, _⟩
  have Cx := hid (CB.made (w := wxa) (X := X) hx0 hx1)
  obtain ⟨ax0, cx0, rfl⟩ := hx0.shape
  obtain ⟨ax1, cx1, rfl⟩ := hx1.shape
  obtain ⟨wx, hwx⟩ : ∃ wx, wx = wxa.alloc (.cells #[.slice ax0 X.1.length cx0, .slice ax1 X.2.length cx1] 24) := ⟨_, rfl⟩
  have hpxb : Pure wxa wx := by rw [hwx]; exact (Below.refl _ _).alloc (Nat.le_refl _) _
  have hpxc := hid (hpxa.then_ hpxb)
  have Hpx := hid (Hp1.out.then_ hpxc.out)
  rw [← hwx] at Cx
  clear hpxa hpxb hx0 hx1
  clear f0 f1 f2 f3 f4 f5
  obtain ⟨f0, f1, f2, f3, f4, f5⟩ := HS0.out wx Hpx.out
  rw [hwx] at f0 f1 f2 f3 f4 f5
  go_wp2_with fail
  rw [← hwx]
  clear hwx f0 f1 f2 f3 f4 f5
  refine (Hmb.out wx Hpx.out).mono ?_
  rintro e wya ⟨y0, y1, rfl, hy0, hy1, hpya, _, _⟩
  have Cy := hid (CB.made (w := wya) (X := Y) hy0 hy1)
  obtain ⟨ay0, cy0, rfl⟩ := hy0.shape
  obtain ⟨ay1, cy1, rfl⟩ := hy1.shape
  obtain ⟨wy, hwy⟩ : ∃ wy, wy = wya.alloc (.cells #[.slice ay0 Y.1.length cy0, .slice ay1 Y.2.length cy1] 24) := ⟨_, rfl⟩
  have hpyb : Pure wya wy := by rw [hwy]; exact (Below.refl _ _).alloc (Nat.le_refl _) _
  have hpyc := hid (hpya.then_ hpyb)
  have Hpy := hid (Hpx.out.then_ hpyc.out)
  rw [← hwy] at Cy
  clear hpya hpyb hy0 hy1
  obtain ⟨f0, f1, f2, f3, f4, f5⟩ := HS0.out wy Hpy.out
  rw [hwy] at f0 f1 f2 f3 f4 f5
  go_wp2_with fail
  rw [← hwy]
  clear hwy f0 f1 f2 f3 f4 f5
  refine (Hmc.out wy Hpy.out).mono ?_
  rintro e wza ⟨z0, z1, rfl, hz0, hz1, hpza, _, _⟩
  have Cz := hid (CB.made (w := wza) (X := Z) hz0 hz1)
  obtain ⟨az0, cz0, rfl⟩ := hz0.shape
  obtain ⟨az1, cz1, rfl⟩ := hz1.shape
  obtain ⟨wz, hwz⟩ : ∃ wz, wz = wza.alloc (.cells #[.slice az0 Z.1.length cz0, .slice az1 Z.2.length cz1] 24) := ⟨_, rfl⟩
  have hpzb : Pure wza wz := by rw [hwz]; exact (Below.refl _ _).alloc (Nat.le_refl _) _
  have hpzc := hid (hpza.then_ hpzb)
  have Hpz := hid (Hpy.out.then_ hpzc.out)
  rw [← hwz] at Cz
  clear hpza hpzb hz0 hz1
  have Cx2 := hid (Cx.out.pure (hpyc.out.then_ hpzc.out))
  have Cy2 := hid (Cy.out.pure hpzc.out)
  clear Cx Cy Hma Hmb Hmc HS0
  generalize hnx : wxa.heap.size = nx at *
  generalize hny : wya.heap.size = ny at *
  generalize hnz : wza.heap.size = nz at *
  obtain ⟨g0, g1⟩ := Cx2.out.cells
  obtain ⟨g2, g3⟩ := Cy2.out.cells
  rw [hwz] at g0 g1 g2 g3
  have SXY := hid (SX.out.jn SY.out)
  have Hj := hid (joinB Cx2.out.cr Cy2.out.cr SX.out SY.out (by decide))
  go_wp2_with fail
  rw [← hwz]
  clear hwz g0 g1 g2 g3 hnx hny hnz
  refine Hj.out.mono ?_
  rintro e wja ⟨j0, j1, rfl, hj, hpja⟩
  have Cj := hid (CB.made (w := wja) (X := Jn X Y) hj.1 hj.2)
  obtain ⟨aj0, cj0, rfl⟩ := hj.1.shape
  obtain ⟨aj1, cj1, rfl⟩ := hj.2.shape
  obtain ⟨wj, hwj⟩ : ∃ wj, wj = wja.alloc (.cells #[.slice aj0 (Jn X Y).1.length cj0, .slice aj1 (Jn X Y).2.length cj1] 24) := ⟨_, rfl⟩
  have hpjb : Pure wja wj := by rw [hwj]; exact (Below.refl _ _).alloc (Nat.le_refl _) _
  have hpjc := hid (hpja.then_ hpjb)
  have Hpj := hid (Hpz.out.then_ hpjc.out)
  rw [← hwj] at Cj
  clear hpja hpjb hj
  generalize hnj : wja.heap.size = nj at *
  go_wp2_with fail
  rw [← hwj]
  clear hwj hnj
  generalize Value.slice aj0 (Jn X Y).1.length cj0 = j0 at *
  generalize Value.slice aj1 (Jn X Y).2.length cj1 = j1 at *
  generalize Value.slice ax0 X.1.length cx0 = x0 at *
  generalize Value.slice ax1 X.2.length cx1 = x1 at *
  generalize Value.slice ay0 Y.1.length cy0 = y0 at *
  generalize Value.slice ay1 Y.2.length cy1 = y1 at *
  generalize Value.slice az0 Z.1.length cz0 = z0 at *
  generalize Value.slice az1 Z.2.length cz1 = z1 at *
  have HX := hid (fun W (hW : Pure wj W) => Cx2.out.pure (hpjc.out.then_ hW))
  have HY := hid (fun W (hW : Pure wj W) => Cy2.out.pure (hpjc.out.then_ hW))
  have HZ := hid (fun W (hW : Pure wj W) => Cz.out.pure (hpjc.out.then_ hW))
  have HJ := hid (fun W (hW : Pure wj W) => Cj.out.pure hW)
  have Hpw := hid (fun W (hW : Pure wj W) => Hpe.out.then_ (Hpj.out.then_ hW))
  have hS : Hid (∀ W, Pure wj W → (W.cell? ⟨nx, 0, none⟩ = some x0 ∧ W.cell? ⟨nx, 1, none⟩ = some x1 ∧ W.cell? ⟨ny, 0, none⟩ = some y0 ∧ W.cell? ⟨ny, 1, none⟩ = some y1 ∧ W.cell? ⟨nz, 0, none⟩ = some z0 ∧ W.cell? ⟨nz, 1, none⟩ = some z1 ∧ W.cell? ⟨nj, 0, none⟩ = some j0 ∧ W.cell? ⟨nj, 1, none⟩ = some j1 ∧ Pure wj W)) := fun W hW => ⟨(HX.out W hW).cells.1, (HX.out W hW).cells.2, (HY.out W hW).cells.1, (HY.out W hW).cells.2, (HZ.out W hW).cells.1, (HZ.out W hW).cells.2, (HJ.out W hW).cells.1, (HJ.out W hW).cells.2, hW⟩
  have hS2 : Hid (∀ W : World, (W.cell? ⟨nx, 0, none⟩ = some x0 ∧ W.cell? ⟨nx, 1, none⟩ = some x1 ∧ W.cell? ⟨ny, 0, none⟩ = some y0 ∧ W.cell? ⟨ny, 1, none⟩ = some y1 ∧ W.cell? ⟨nz, 0, none⟩ = some z0 ∧ W.cell? ⟨nz, 1, none⟩ = some z1 ∧ W.cell? ⟨nj, 0, none⟩ = some j0 ∧ W.cell? ⟨nj, 1, none⟩ = some j1 ∧ Pure wj W) → Pure wj W) := fun W h => h.2.2.2.2.2.2.2.2
  have ok1 := SX.out.ok
  have ok2 := SY.out.ok
  have ok3 := SZ.out.ok
  have SYZ := SY.out.jn SZ.out
  have q1 := hid (fun W (hW : Pure wj W) => joinB (HY.out W hW).cr (HX.out W hW).cr SY.out SX.out (by decide))
  have q2 := hid (fun W v0 v1 (hv : CR v0 v1 (Jn Y X) W) (hW : Pure wj W) => rsameB (HJ.out W hW).cr hv)
  rw [Jn.comm ok2 ok1] at q1
  rw [Jn.comm ok2 ok1] at q2
  have q3 := hid (fun W (hW : Pure wj W) => joinB (HJ.out W hW).cr (HZ.out W hW).cr SXY.out SZ.out (by decide))
  have q4 := hid (fun W (hW : Pure wj W) => joinB (HY.out W hW).cr (HZ.out W hW).cr SY.out SZ.out (by decide))
  have q5 := hid (fun W v0 v1 (hv : CR v0 v1 (Jn Y Z) W) (hW : Pure wj W) => joinB (HX.out W hW).cr hv SX.out SYZ (by decide))
  rw [Jn.assoc ok1 ok2 ok3] at q3
  have q6 := hid (fun W v0 v1 u0 u1 (hv : CR v0 v1 (Jn X (Jn Y Z)) W) (hu : CR u0 u1 (Jn X (Jn Y Z)) W) => rsameB hv hu)
  have q7 := hid (fun W (hW : Pure wj W) => joinB (HX.out W hW).cr (HX.out W hW).cr SX.out SX.out (by decide))
  rw [Jn.self ok1] at q7
  have q8 := hid (fun W v0 v1 (hv : CR v0 v1 X W) (hW : Pure wj W) => rsameB hv (HX.out W hW).cr)
  have e1 : decide (Jn (Jn X Y) X = Jn X Y) = true := by
    rw [decide_eq_true_eq, Jn.comm ok1 ok2, Jn.assoc ok2 ok1 ok1, Jn.self ok1]
  have e2 : decide (Jn (Jn X Y) Y = Jn X Y) = true := by
    rw [decide_eq_true_eq, Jn.assoc ok1 ok2 ok2, Jn.self ok2]
  have q9 := hid (fun W (hW : Pure wj W) => coversB (HJ.out W hW).cr (HX.out W hW).cr SXY.out SX.out (by decide))
  have q10 := hid (fun W (hW : Pure wj W) => coversB (HJ.out W hW).cr (HY.out W hW).cr SXY.out SY.out (by decide))
  rw [e1] at q9
  rw [e2] at q10
  have q11 := hid (fun W (hW : Pure wj W) => checkB (HJ.out W hW).cr SXY.out (by decide))
  have q12 := hid (fun W (hW : Pure wj W) => coversB (HX.out W hW).cr (HY.out W hW).cr SX.out SY.out (by decide))
  have q13 := hid (fun W (hW : Pure wj W) => sameB (HJ.out W hW).cr (HX.out W hW).cr)
  simp only [decide_true] at q2 q6 q8
  unfold CtxO at q1 q3 q4 q5 q7
  generalize decide (Jn X Y = X) = bb at *
  have hbb : (bb == bb) = true := by simp
  clear e1 e2 ok1 ok2 ok3 Cx2 Cy2 Cz Cj SX SY SZ SXY SYZ HX HY HZ HJ hpxc hpyc hpzc hpjc Hpx Hpy Hpz Hj Hp1
  have hst0 := hid (hS.out wj (Below.refl _ _))
  have hst := hid (hS.out wj.drew (Below.refl _ _).drew)
  go_region_held3 (fun W => W.cell? ⟨nx, 0, none⟩ = some x0 ∧ W.cell? ⟨nx, 1, none⟩ = some x1 ∧ W.cell? ⟨ny, 0, none⟩ = some y0 ∧ W.cell? ⟨ny, 1, none⟩ = some y1 ∧ W.cell? ⟨nz, 0, none⟩ = some z0 ∧ W.cell? ⟨nz, 1, none⟩ = some z1 ∧ W.cell? ⟨nj, 0, none⟩ = some j0 ∧ W.cell? ⟨nj, 1, none⟩ = some j1 ∧ Pure wj W)
    (first | assumption | with_reducible exact hst.out | with_reducible exact hS.out _ (Pure.then_ (hS2.out _ (by assumption)) (by assumption)))
    ((first
      | (go_at_call 11; (with_reducible refine (q1.out _ (hS2.out _ (by assumption))).mono ?_); rintro e wq ⟨v0, v1, rfl, hv, hpq⟩)
      | (go_at_call 27; (refine (q2.out _ _ _ hv (hS2.out _ (by assumption))).mono ?_); rintro e wr ⟨rfl, hpr⟩)))
  have H1 := hid (hS2.out wr (by assumption))
  clear hv hpq hpr hst q1 q2
  have hst := hid (hS.out wr.drew (H1.out.then_ (Below.refl _ _).drew))
  go_wp2_with fail
  go_region_held3 (fun W => W.cell? ⟨nx, 0, none⟩ = some x0 ∧ W.cell? ⟨nx, 1, none⟩ = some x1 ∧ W.cell? ⟨ny, 0, none⟩ = some y0 ∧ W.cell? ⟨ny, 1, none⟩ = some y1 ∧ W.cell? ⟨nz, 0, none⟩ = some z0 ∧ W.cell? ⟨nz, 1, none⟩ = some z1 ∧ W.cell? ⟨nj, 0, none⟩ = some j0 ∧ W.cell? ⟨nj, 1, none⟩ = some j1 ∧ Pure wj W)
    (first | assumption | with_reducible exact hst.out | with_reducible exact hS.out _ (Pure.then_ (hS2.out _ (by assumption)) (by assumption)))
    ((first
      | (go_at_call 11; (with_reducible refine (q3.out _ (hS2.out _ (by assumption))).mono ?_); rintro e w3 ⟨v0, v1, rfl, hv3, hp3⟩)
      | (go_at_call 11; (with_reducible refine (q4.out _ (hS2.out _ (by assumption))).mono ?_); rintro e w4 ⟨u0, u1, rfl, hv4, hp4⟩)
      | (go_at_call 11; (refine (q5.out _ _ _ hv4 (hS2.out _ (by assumption))).mono ?_); rintro e w5 ⟨t0, t1, rfl, hv5, hp5⟩)
      | (go_at_call 27; (refine (q6.out _ _ _ _ _ (hv3.pure (hp4.then_ hp5)) hv5).mono ?_); rintro e w6 ⟨rfl, hp6⟩)))
  have H2 := hid (hS2.out w6 (by assumption))
  clear hv3 hv4 hv5 hp3 hp4 hp5 hp6 hst q3 q4 q5 q6
  have hst := hid (hS.out w6.drew (H2.out.then_ (Below.refl _ _).drew))
  go_wp2_with fail
  go_region_held3 (fun W => W.cell? ⟨nx, 0, none⟩ = some x0 ∧ W.cell? ⟨nx, 1, none⟩ = some x1 ∧ W.cell? ⟨ny, 0, none⟩ = some y0 ∧ W.cell? ⟨ny, 1, none⟩ = some y1 ∧ W.cell? ⟨nz, 0, none⟩ = some z0 ∧ W.cell? ⟨nz, 1, none⟩ = some z1 ∧ W.cell? ⟨nj, 0, none⟩ = some j0 ∧ W.cell? ⟨nj, 1, none⟩ = some j1 ∧ Pure wj W)
    (first | assumption | with_reducible exact hst.out | with_reducible exact hS.out _ (Pure.then_ (hS2.out _ (by assumption)) (by assumption)))
    ((first
      | (go_at_call 11; (with_reducible refine (q7.out _ (hS2.out _ (by assumption))).mono ?_); rintro e w7 ⟨v0, v1, rfl, hv, hp7⟩)
      | (go_at_call 27; (refine (q8.out _ _ _ hv (hS2.out _ (by assumption))).mono ?_); rintro e w8 ⟨rfl, hp8⟩)))
  have H3 := hid (hS2.out w8 (by assumption))
  clear hv hp7 hp8 hst q7 q8
  have hst := hid (hS.out w8.drew (H3.out.then_ (Below.refl _ _).drew))
  go_wp2_with fail
  go_region_held3 (fun W => W.cell? ⟨nx, 0, none⟩ = some x0 ∧ W.cell? ⟨nx, 1, none⟩ = some x1 ∧ W.cell? ⟨ny, 0, none⟩ = some y0 ∧ W.cell? ⟨ny, 1, none⟩ = some y1 ∧ W.cell? ⟨nz, 0, none⟩ = some z0 ∧ W.cell? ⟨nz, 1, none⟩ = some z1 ∧ W.cell? ⟨nj, 0, none⟩ = some j0 ∧ W.cell? ⟨nj, 1, none⟩ = some j1 ∧ Pure wj W)
    (first | assumption | with_reducible exact hst.out | with_reducible exact hS.out _ (Pure.then_ (hS2.out _ (by assumption)) (by assumption)))
    ((first
      | (go_at_call 22; (with_reducible refine (q9.out _ (hS2.out _ (by assumption))).mono ?_); rintro e wq ⟨rfl, hpq⟩)
      | (go_at_call 22; (with_reducible refine (q10.out _ (hS2.out _ (by assumption))).mono ?_); rintro e wq ⟨rfl, hpq⟩)
      | (go_at_call 33; (with_reducible refine (q11.out _ (hS2.out _ (by assumption))).mono ?_); rintro e wq ⟨rfl, hpq⟩)
      | (go_at_call 22; (with_reducible refine (q12.out _ (hS2.out _ (by assumption))).mono ?_); rintro e wq ⟨rfl, hpq⟩)
      | (go_at_call 32; (with_reducible refine (q13.out _ (hS2.out _ (by assumption))).mono ?_); rintro e wl ⟨rfl, hpl⟩)))
  have H4 := hid (Hpw.out wl (hS2.out wl (by assumption)))
  clear hst hpl hS hS2 q9 q10 q11 q12 q13
  go_wp2
  go_ret
  exact ⟨rfl, H4.out⟩
end Go.Proofs.Ytimcjkimehhgcaa
