/- CtxTells. -/
import Derived.Test.YtimcjkimehhgcaaLA
namespace Go.Proofs.Ytimcjkimehhgcaa
open Go.RowKit Go.Maps Go.Shelf Go.Sort

set_option maxRecDepth 8000 in
set_option maxHeartbeats 8000000 in
theorem tells_walk (va vb vc vd : Value) (A0 A1 B0 B1 : List Dot) (d : Dot) (w : World) (h1 : Dots w va A0) (h2 : Dots w vb A1) (h3 : Dots w vc B0) (h4 : Dots w vd B1) :
    Calls Try.prog 4 #[.agg #[va, vb], .agg #[vc, vd], dv d] w fun e w' => e = .returned (.bool true) ∧ Pure w w' := by
  obtain ⟨dx, dy⟩ := d
  obtain ⟨wz, hwz, Hpz, hS0⟩ := box2 w va vb vc vd
  obtain ⟨we, hwe⟩ : ∃ we, we = wz.alloc (.cells #[.int .i64 dx, .int .i64 dy] 30) := ⟨_, rfl⟩
  have hpe : Pure wz we := by rw [hwe]; exact (Below.refl _ _).alloc (Nat.le_refl _) _
  have hse : wz.heap.size = w.heap.size + 1 + 1 := by rw [hwz]; simp
  have hdb : DB (w.heap.size + 1 + 1) (dx, dy) we := by rw [hwe, ← hse]; exact block_alloc_new _ _
  have Hpe := hid (Hpz.out.then_ hpe)
  have HS0 := hid (fun W (hW : Pure we W) => hS0.out W (hpe.then_ hW))
  have Hdb := hid (fun W (hW : Pure we W) => hdb.pure hW)
  have Hma := hid (fun W (hW : Pure we W) => made_any va vb A0 A1 W (Row.pure h1 (Hpe.out.then_ hW)) (Row.pure h2 (Hpe.out.then_ hW)))
  have Hmb := hid (fun W (hW : Pure we W) => made_any vc vd B0 B1 W (Row.pure h3 (Hpe.out.then_ hW)) (Row.pure h4 (Hpe.out.then_ hW)))
  have SX := hid (Sml.made A0 A1)
  have SY := hid (Sml.made B0 B1)
  unfold CtxF cv at Hma Hmb
  generalize madeC A0 A1 = X at *
  generalize madeC B0 B1 = Y at *
  clear h1 h2 h3 h4 hS0 hdb hpe hse
  unfold dv
  dsimp only
  go_enter Try.func4, Try.ntmps4
  go_wp2_with fail
  rw [← hwz, ← hwe]
  clear hwz hwe
  refine (awake_any we).mono ?_
  rintro e w1 ⟨rfl, hp1⟩
  have Hp1 := hid hp1
  obtain ⟨f0, f1, f2, f3, _⟩ := HS0.out w1 hp1
  clear hp1
  go_wp2_with fail
  refine (Hma.out w1 Hp1.out).mono ?_
  rintro e w2 ⟨x0, x1, rfl, hx0, hx1, hp2, _, _⟩
  have Hx := hid (CB.made (w := w2) (X := X) hx0 hx1)
  obtain ⟨a0, c0, rfl⟩ := hx0.shape
  obtain ⟨a1, c1, rfl⟩ := hx1.shape
  have Hp2 := hid (Hp1.out.then_ hp2)
  clear hp2 f0 f1 f2 f3 hx0 hx1
  obtain ⟨w3, hw3⟩ : ∃ w3, w3 = w2.alloc (.cells #[.slice a0 X.1.length c0, .slice a1 X.2.length c1] 24) := ⟨_, rfl⟩
  have hp3 : Pure w2 w3 := by rw [hw3]; exact (Below.refl _ _).alloc (Nat.le_refl _) _
  have Hp3 := hid (Hp2.out.then_ hp3)
  rw [← hw3] at Hx
  obtain ⟨f0, f1, f2, f3, _⟩ := HS0.out w3 Hp3.out
  rw [hw3] at f0 f1 f2 f3
  clear hp3
  go_wp2_with fail
  rw [← hw3]
  clear hw3 f0 f1 f2 f3
  refine (Hmb.out w3 Hp3.out).mono ?_
  rintro e w4 ⟨y0, y1, rfl, hy0, hy1, hp4, _, _⟩
  have Hy := hid (CB.made (w := w4) (X := Y) hy0 hy1)
  obtain ⟨a2, c2, rfl⟩ := hy0.shape
  obtain ⟨a3, c3, rfl⟩ := hy1.shape
  obtain ⟨w5, hw5⟩ : ∃ w5, w5 = w4.alloc (.cells #[.slice a2 Y.1.length c2, .slice a3 Y.2.length c3] 24) := ⟨_, rfl⟩
  have hp5 : Pure w4 w5 := by rw [hw5]; exact (Below.refl _ _).alloc (Nat.le_refl _) _
  have Hp5 := hid (Hp3.out.then_ (hp4.then_ hp5))
  have HD := hid (fun W (hW : Pure w5 W) => DB.cells (Hdb.out W (Hp5.out.then_ hW)))
  rw [← hw5] at Hy
  have Hx5 := hid (Hx.out.pure (hp4.then_ hp5))
  clear hp4 hp5 hy0 hy1 Hx
  generalize hnx : w2.heap.size = nx at *
  generalize hny : w4.heap.size = ny at *
  generalize Value.slice a0 X.1.length c0 = x0 at *
  generalize Value.slice a1 X.2.length c1 = x1 at *
  have HX := hid (fun W (hW : Pure w5 W) => Hx5.out.pure hW)
  have HY := hid (fun W (hW : Pure w5 W) => Hy.out.pure hW)
  have lx0 := SX.out.l0
  have lx1 := SX.out.l1
  have ly0 := SY.out.l0
  have ly1 := SY.out.l1
  have hnd := hid (fun W (hW : Pure w5 W) => nodes_any x0 x1 X.1 X.2 W (HX.out W hW).r0 (HX.out W hW).r1 (by omega) (by omega) (fun d hd => by rcases List.mem_append.1 hd with hd | hd; exact SX.out.j.wb d hd; exact SX.out.j.wc d hd))
  have hrn := hid (fun W (hW : Pure w5 W) => rnodes_any x0 x1 X.1 X.2 W (HX.out W hW).r0 (HX.out W hW).r1 (by omega))
  have hsm := hid (fun W v u (hv : Ints W v (cnodes X.1 X.2)) (hu : Ints W u (cnodes X.1 X.2)) => same_any v u _ _ W hv hu)
  simp only [decide_true] at hsm
  unfold NdP cv at hnd
  generalize cnodes X.1 X.2 = N at *
  have hS : Hid (∀ W, Pure w5 W → (W.cell? ⟨nx, 0, none⟩ = some x0 ∧ W.cell? ⟨nx, 1, none⟩ = some x1 ∧ Pure w5 W)) := fun W hW => ⟨(HX.out W hW).cells.1, (HX.out W hW).cells.2, hW⟩
  have hst := hid (hS.out w5.drew (Below.refl _ _).drew)
  have hS2 : Hid (∀ W : World, (W.cell? ⟨nx, 0, none⟩ = some x0 ∧ W.cell? ⟨nx, 1, none⟩ = some x1 ∧ Pure w5 W) → Pure w5 W) := fun W h => h.2.2
  go_wp2_with fail
  rw [← hw5]
  clear hw5 hnx hny
  go_region_held3 (fun W => W.cell? ⟨nx, 0, none⟩ = some x0 ∧ W.cell? ⟨nx, 1, none⟩ = some x1 ∧ Pure w5 W)
    (first | assumption | with_reducible exact hst.out | with_reducible exact hS.out _ (Pure.then_ (hS2.out _ (by assumption)) (by assumption)))
    ((first
      | (go_at_call 17; (with_reducible refine (hnd.out _ (hS2.out _ (by assumption))).mono ?_); rintro e w6 ⟨v6, rfl, hd6, hp6⟩)
      | (go_at_call 18; (with_reducible refine (hrn.out _ (hS2.out _ (by assumption))).mono ?_); rintro e w7 ⟨v7, rfl, hd7, hp7, _⟩)
      | (go_at_call 16; (refine (hsm.out _ _ _ (Row.pure (Row.of_own hd6) hp7) hd7).mono ?_); rintro e w8 ⟨rfl, hp8⟩)))
  have Hp8 := hid (hS2.out w8 (by assumption))
  clear hd6 hp6 hd7 hp7 hp8 hst hS hS2 hnd hrn hsm
  generalize Value.slice a2 Y.1.length c2 = y0 at *
  generalize Value.slice a3 Y.2.length c3 = y1 at *
  have hhas := hid (fun W (hW : Pure w5 W) => has_any x0 x1 X.1 X.2 (dx, dy) W (HX.out W hW).r0 (HX.out W hW).r1 SX.out.j.sb SX.out.ok.cr (fun d hd => (SX.out.bd d hd).1) (by omega) (by omega))
  have hrhas := hid (fun W (hW : Pure w5 W) => rchas_any x0 x1 X.1 X.2 (dx, dy) W (HX.out W hW).r0 (HX.out W hW).r1)
  have hup := hid (fun W (hW : Pure w5 W) => upto_any x0 x1 X.1 dx W (HX.out W hW).r0 SX.out.j.sb (fun d hd => (SX.out.bd d hd).1) (by omega))
  have hrup := hid (fun W (hW : Pure w5 W) => rupto_any x0 x1 X.1 dx W (HX.out W hW).r0)
  have hcv := hid (fun W (hW : Pure w5 W) => covers_any x0 x1 y0 y1 X.1 X.2 Y.1 Y.2 W (HX.out W hW).r0 (HX.out W hW).r1 (HY.out W hW).r0 (HY.out W hW).r1 (by omega) SX.out.j SY.out.j)
  have hrcv := hid (fun W (hW : Pure w5 W) => rcovers_any x0 x1 y0 y1 X.1 X.2 Y.1 Y.2 W (HX.out W hW).r0 (HX.out W hW).r1 (HY.out W hW).r0 (HY.out W hW).r1 (by omega) SX.out.bd SY.out.bd)
  have hcs := hid (fun W (hW : Pure w5 W) => covers_any x0 x1 x0 x1 X.1 X.2 X.1 X.2 W (HX.out W hW).r0 (HX.out W hW).r1 (HX.out W hW).r0 (HX.out W hW).r1 (by omega) SX.out.j SX.out.j)
  rw [ccov_self SX.out.ok] at hcs
  have hnx := hid (fun W (hW : Pure w5 W) => next_any x0 x1 X.1 X.2 dx W (HX.out W hW).r0 (HX.out W hW).r1 (by omega) (by omega) SX.out.j SX.out.ok.cr)
  have hrnx := hid (fun W (hW : Pure w5 W) => rnext_any x0 x1 X.1 X.2 dx W (HX.out W hW).r0 (HX.out W hW).r1 SX.out.bd SX.out.bc)
  have HcX := hid (fun W (hW : Pure w5 W) => (HX.out W hW).cells)
  have HcY := hid (fun W (hW : Pure w5 W) => (HY.out W hW).cells)
  unfold cv dv at *
  dsimp only at HD hhas hrhas hnx hrnx
  generalize chas X.1 X.2 (dx, dy) = b1 at *
  generalize cbase X.1 dx = n1 at *
  generalize ccov X.1 X.2 Y.1 Y.2 = b2 at *
  generalize cnx X.1 X.2 dx + 1 = n2 at *
  clear HX HY SX SY Hx5 Hy lx0 lx1 ly0 ly1 HS0 Hdb Hma Hmb
  have heq := dot_eqIn
  have hb1 : (b1 == b1) = true := by simp
  have hb2 : (b2 == b2) = true := by simp
  have hS : Hid (∀ W, Pure w5 W → (W.cell? ⟨nx, 0, none⟩ = some x0 ∧ W.cell? ⟨nx, 1, none⟩ = some x1 ∧ W.cell? ⟨ny, 0, none⟩ = some y0 ∧ W.cell? ⟨ny, 1, none⟩ = some y1 ∧ W.cell? ⟨w.heap.size + 1 + 1, 0, none⟩ = some (.int .i64 dx) ∧ W.cell? ⟨w.heap.size + 1 + 1, 1, none⟩ = some (.int .i64 dy) ∧ Pure w5 W)) := fun W hW => ⟨(HcX.out W hW).1, (HcX.out W hW).2, (HcY.out W hW).1, (HcY.out W hW).2, (HD.out W hW).1, (HD.out W hW).2, hW⟩
  have hst := hid (hS.out w8.drew (Hp8.out.then_ (Below.refl _ _).drew))
  have hS2 : Hid (∀ W : World, (W.cell? ⟨nx, 0, none⟩ = some x0 ∧ W.cell? ⟨nx, 1, none⟩ = some x1 ∧ W.cell? ⟨ny, 0, none⟩ = some y0 ∧ W.cell? ⟨ny, 1, none⟩ = some y1 ∧ W.cell? ⟨w.heap.size + 1 + 1, 0, none⟩ = some (.int .i64 dx) ∧ W.cell? ⟨w.heap.size + 1 + 1, 1, none⟩ = some (.int .i64 dy) ∧ Pure w5 W) → Pure w5 W) := fun W h => h.2.2.2.2.2.2
  go_wp2_with fail
  go_region_held3 (fun W => W.cell? ⟨nx, 0, none⟩ = some x0 ∧ W.cell? ⟨nx, 1, none⟩ = some x1 ∧ W.cell? ⟨ny, 0, none⟩ = some y0 ∧ W.cell? ⟨ny, 1, none⟩ = some y1 ∧ W.cell? ⟨w.heap.size + 1 + 1, 0, none⟩ = some (.int .i64 dx) ∧ W.cell? ⟨w.heap.size + 1 + 1, 1, none⟩ = some (.int .i64 dy) ∧ Pure w5 W)
    (first | assumption | with_reducible exact hst.out | with_reducible exact hS.out _ (Pure.then_ (hS2.out _ (by assumption)) (by assumption)))
    ((first
      | (go_at_call 15; (with_reducible refine (hhas.out _ (hS2.out _ (by assumption))).mono ?_); rintro e wq ⟨rfl, hpq⟩)
      | (go_at_call 19; (with_reducible refine (hrhas.out _ (hS2.out _ (by assumption))).mono ?_); rintro e wq ⟨rfl, hpq⟩)
      | (go_at_call 20; (with_reducible refine (hup.out _ (hS2.out _ (by assumption))).mono ?_); rintro e wq ⟨rfl, hpq⟩)
      | (go_at_call 21; (with_reducible refine (hrup.out _ (hS2.out _ (by assumption))).mono ?_); rintro e wq ⟨rfl, hpq⟩)
      | (go_at_call 22; (with_reducible refine (hcv.out _ (hS2.out _ (by assumption))).mono ?_); rintro e wq ⟨rfl, hpq⟩)
      | (go_at_call 22; (with_reducible refine (hcs.out _ (hS2.out _ (by assumption))).mono ?_); rintro e wq ⟨rfl, hpq⟩)
      | (go_at_call 23; (with_reducible refine (hrcv.out _ (hS2.out _ (by assumption))).mono ?_); rintro e wq ⟨rfl, hpq⟩)
      | (go_at_call 24; (with_reducible refine (hnx.out _ (hS2.out _ (by assumption))).mono ?_); rintro e wq ⟨rfl, hpq⟩)
      | (go_at_call 25; (with_reducible refine (hrnx.out _ (hS2.out _ (by assumption))).mono ?_); rintro e wl ⟨rfl, hpl⟩)))
  have hx := hid (Hp5.out.then_ (hS2.out wl (by assumption)))
  clear hst hS hS2 hhas hrhas hup hrup hcv hrcv hcs hnx hrnx hpl
  go_wp2
  go_ret
  exact ⟨rfl, Hpe.out.then_ hx.out⟩
end Go.Proofs.Ytimcjkimehhgcaa
