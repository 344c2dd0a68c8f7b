/- bag: Remove, Covers. bag: Put of the chapter's first message into an empty bag. law05: awake. -/
import Derived.Test.YtbcbmnifbflmaaaGreatBG1
import Derived.Test.YtbcbmnifbflmaaaGreatJQ
import Derived.Test.YtbcbmnifbflmaaaGreatMEq
import Derived.Test.YtbcbmnifbflmaaaGreatMQa
import Derived.Test.YtbcbmnifbflmaaaGreatPut
import Derived.Test.YtbcbmnifbflmaaaGreatMSd
namespace Go.Proofs.YtbcbmnifbflmaaaGreat
open Go.RowKit Go.Maps Go.Shelf Go.Sort

set_option maxHeartbeats 400000 in
theorem remove1_any (m : Msg) (d : Dot) (bn : Nat) (w : World) (h0 : w.cell? ⟨bn, 0, none⟩ = some (.int .i64 d.1)) (h1 : w.cell? ⟨bn, 1, none⟩ = some (.int .i64 d.2)) :
    Calls Tryz.prog 42 #[mv m, .pointer (some ⟨bn, 0, none⟩)] w fun e w' => e = .returned (.bool (decide (m.1 = d))) ∧ Pure w w' := by
  obtain ⟨⟨x, y⟩, q, b, c⟩ := m
  obtain ⟨dx, dy⟩ := d
  dsimp only at h0 h1
  have hp := hid (show ∀ o, Pure w (w.alloc o) from fun o => (Below.refl _ _).alloc (Nat.le_refl _) o)
  have f0 := fun o => pat (hp.out o) h0
  have f1 := fun o => pat (hp.out o) h1
  have heq := dot_eqIn
  have he := hid (show decide ((x, y) = (dx, dy)) = (decide (x = dx) && decide (y = dy)) from by rw [Bool.eq_iff_iff]; simp)
  unfold mv
  dsimp only
  clear h0 h1
  go_enter Tryz.func42, Tryz.ntmps42
  go_wp2
  go_ret
  exact ⟨by rw [he.out]; rfl, hp.out _⟩

set_option maxRecDepth 8000 in
set_option maxHeartbeats 4000000 in
theorem sremove_any (v0 v1 v2 : Value) (g : Bag) (d : Dot) (U : List Dot) (w : World) (hr : BR3 v0 v1 v2 g w) (hg : BOk U g) (hU : U.length ≤ 400) (hd : dchk d = true) :
    Calls Tryz.prog 12 #[.agg #[v0, v1, v2], dv d] w (BagT w (bremove g d) 0) := by
  have hl0 : g.1.length ≤ 100000 := by have := hg.len; omega
  have hsm := hg.sml
  have hj := hid hsm.j
  have hl : g.2.1.length + g.2.2.length + 1 ≤ 1000 := by have := hsm.l0; have := hsm.l1; omega
  obtain ⟨L, B, C⟩ := g
  obtain ⟨x, y⟩ := d
  dsimp only at hl0 hl hj
  have hbp := hid (show bremove (L, B, C) (x, y) = (L.filter (fun m => !decide (m.1 = (x, y))), cjoin B C [] (dsort ([(x, y)].filter dchk))) from rfl)
  have hlt := hr.lt
  obtain ⟨h0, h1, h2⟩ := hr
  dsimp only at h0 h1 h2
  obtain ⟨a0, c0, rfl⟩ := h0.shape
  obtain ⟨a1, c1, rfl⟩ := h1.shape
  obtain ⟨a2, c2, rfl⟩ := h2.shape
  obtain ⟨wz, hwz⟩ : ∃ wz, wz = ((w.alloc (.cells #[.slice a0 L.length c0, .slice a1 B.length c1, .slice a2 C.length c2] 33)).alloc (.cells #[.int .i64 x, .int .i64 y] 28)).alloc (.cells #[.slice none 0 0, .slice none 0 0, .slice none 0 0] 33) := ⟨_, rfl⟩
  have Hpz := hid (show Pure w wz from by rw [hwz]; exact (((Below.refl _ _).alloc (Nat.le_refl _) _).alloc (by simp) _).alloc (by simp; omega) _)
  have hsz : wz.heap.size = w.heap.size + 3 := by rw [hwz]; simp
  have n1 := block_alloc_new (w.alloc (.cells #[.slice a0 L.length c0, .slice a1 B.length c1, .slice a2 C.length c2] 33)) (.cells #[.int .i64 x, .int .i64 y] 28)
  have n2 := block_alloc_new ((w.alloc (.cells #[.slice a0 L.length c0, .slice a1 B.length c1, .slice a2 C.length c2] 33)).alloc (.cells #[.int .i64 x, .int .i64 y] 28)) (.cells #[.slice none 0 0, .slice none 0 0, .slice none 0 0] 33)
  simp only [World.size_alloc] at n1 n2
  have hbk : Hid (wz.heap[w.heap.size]? = some (.cells #[.slice a0 L.length c0, .slice a1 B.length c1, .slice a2 C.length c2] 33 (0, 0)) ∧ wz.heap[w.heap.size + 1]? = some (.cells #[.int .i64 x, .int .i64 y] 28 (0, 0)) ∧ RsB (w.heap.size + 1 + 1) wz) := by
    show _ ∧ _ ∧ wz.heap[w.heap.size + 1 + 1]? = _
    rw [hwz]
    exact ⟨block_alloc_old (block_alloc_old (block_alloc_new _ _) _) _, block_alloc_old n1 _, n2⟩
  clear n1 n2
  have hBox : Hid (∀ W, Pure wz W → (W.cell? ⟨w.heap.size, 0, none⟩ = some (.slice a0 L.length c0) ∧ W.cell? ⟨w.heap.size, 1, none⟩ = some (.slice a1 B.length c1) ∧ W.cell? ⟨w.heap.size, 2, none⟩ = some (.slice a2 C.length c2) ∧ W.cell? ⟨w.heap.size + 1, 0, none⟩ = some (.int .i64 x) ∧ W.cell? ⟨w.heap.size + 1, 1, none⟩ = some (.int .i64 y) ∧ RsB (w.heap.size + 1 + 1) W)) := fun W hW => by
    have e0 := (hW.block _ (lt_of_block hbk.out.1)).trans hbk.out.1
    have e1 := (hW.block _ (lt_of_block hbk.out.2.1)).trans hbk.out.2.1
    have e2 := (hW.block _ (lt_of_block hbk.out.2.2)).trans hbk.out.2.2
    exact ⟨cell_of_block e0 0, cell_of_block e0 1, cell_of_block e0 2, cell_of_block e1 0, cell_of_block e1 1, e2⟩
  have hchk := hid (show Calls _ _ _ _ _ from by have := chk_any (x, y) wz; rw [hd] at this; exact this)
  have hcl := hid (fun W (hW : Pure wz W) => mclone_any _ L W (show Msgs W _ L from Row.pure h0 (Hpz.out.then_ hW)) hl0)
  have hdl := hid (fun W base v (hW : Pure wz W) (hv : W.ownsRow base 41 5 v L.length (mvs L)) (hb : wz.heap.size ≤ base) => deletem_own base v L W hv hl0 42 #[.pointer (some ⟨w.heap.size + 1, 0, none⟩)] (fun m => decide (m.1 = (x, y))) (enters_of Tryz.func42 (by kernel_rfl) rfl)
    (fun W' m hW' => by
      have e1 := (hW.block _ (lt_of_block hbk.out.2.1)).trans hbk.out.2.1
      have e2 := (hW'.block (w.heap.size + 1) (lt_of_block e1) (fun e => by have := (hv.lt _ e.symm).1; omega)).trans e1
      exact remove1_any m (x, y) (w.heap.size + 1) W' (cell_of_block e2 0) (cell_of_block e2 1)))
  have hadd := hid (fun W v (hW : Pure wz W) (hv : Dots W v [(x, y)]) => add_any (.slice a1 B.length c1) (.slice a2 C.length c2) v B C [(x, y)] W (Row.pure h1 (Hpz.out.then_ hW)) (Row.pure h2 (Hpz.out.then_ hW)) hv (by simp; omega) hj.out)
  have Hsz := hid hsz
  unfold DmP at hdl
  unfold CtxF cv at hadd
  unfold dv at *
  dsimp only at hchk ⊢
  generalize cjoin B C [] (dsort ([(x, y)].filter dchk)) = K at *
  obtain ⟨K1, K2⟩ := K
  generalize (L.filter fun m => !decide (m.1 = (x, y))) = F at *
  dsimp only at hadd
  obtain ⟨f0, f1, f2, f3, f4, f5⟩ := hBox.out wz (Below.refl _ _)
  rw [hwz] at f0 f1 f2 f3 f4
  clear h0 h1 h2 hlt hd hsm hl hl0 hsz f5
  go_enter Tryz.func12, Tryz.ntmps12
  go_wp2_with fail
  rw [← hwz]
  clear hwz f0 f1 f2 f3 f4
  refine hchk.out.mono ?_
  rintro e w1 ⟨rfl, hp1⟩
  obtain ⟨f0, f1, f2, f3, f4, -⟩ := hBox.out w1 hp1
  have Hp1 := hid hp1
  clear hp1
  go_wp2_with fail
  refine (hcl.out w1 Hp1.out).mono ?_
  rintro e w2 ⟨v2, rfl, hown2, hp2⟩
  have Hp2 := hid (Hp1.out.then_ hp2)
  have hD := hid (hdl.out w2 w1.heap.size v2 Hp2.out hown2 Hp1.out.size)
  have Hown2 := hid hown2
  clear f0 f1 f2 f3 f4 hown2 hp2
  go_wp2_with fail
  refine hD.out.mono ?_
  rintro e w3 ⟨v3, rfl, hown3, hg3⟩
  have Hp3 := hid (show Pure wz w3 from Hp2.out.grown hg3 (by have := Hp2.out.size; omega) (fun k hk => by have := (Hown2.out.lt k hk).1; have := Hp1.out.size; omega))
  have Hown3 := hid hown3
  obtain ⟨a9, c9, rfl⟩ := own_shape_d hown3
  obtain ⟨f0, f1, f2, f3, f4, -⟩ := hBox.out w3 Hp3.out
  obtain ⟨wl, hwl⟩ : ∃ wl, wl = w3.alloc (.cells #[.int .i64 x, .int .i64 y] 28) := ⟨_, rfl⟩
  have Hpl := hid (show Pure w3 wl from by rw [hwl]; exact (Below.refl _ _).alloc (Nat.le_refl _) _)
  have hA := hid (hadd.out wl (.slice (some ⟨w3.heap.size, 0, none⟩) 1 1) (Hp3.out.then_ Hpl.out) (by rw [hwl]; exact dots_lit w3 x y))
  clear hown3 hg3
  go_wp2_with fail
  rw [← hwl]
  clear hwl f0 f1 f2 f3 f4
  refine hA.out.mono ?_
  rintro e w4 ⟨u1, u2, rfl, hd1, hd2, hp4, hg1, hg2⟩
  have Hp4 := hid ((Hp3.out.then_ Hpl.out).then_ hp4)
  have hown4 := own_pure Hown3.out (Hpl.out.then_ hp4)
  obtain ⟨f0, f1, f2, f3, f4, f5⟩ := hBox.out w4 Hp4.out
  obtain ⟨r0, r1, r2, r3, r4, r5⟩ := f5.cells
  obtain ⟨x1, k1, rfl⟩ := hd1.shape
  obtain ⟨x2, k2, rfl⟩ := hd2.shape
  have hs3 := Hp3.out.size
  have hsl := Hpl.out.size
  have hs1 := Hp1.out.size
  have hsz := Hsz.out
  obtain ⟨t0, t1, t2, hfin⟩ := bag_ret (w := w) (g := bremove (L, B, C) (x, y)) f5 (by omega) (Hpz.out.then_ Hp4.out) (by rw [hbp.out]; exact (show BR3 _ _ _ (F, K1, K2) w4 from ⟨Row.of_own hown4, hd1, hd2⟩))
    ⟨fun k hk => by have := (hown4.lt k (rb_own hk)).1; omega, fun k hk => by have := hg1 k hk; omega, fun k hk => by have := hg2 k hk; omega⟩
  have T0 := hid t0
  have T1 := hid t1
  have T2 := hid t2
  have Hfin := hid (hfin.tup 0)
  clear t0 t1 t2 hfin hd1 hd2 hp4 hg1 hg2 hown4 f0 f1 f2 f3 f4 f5
  go_wp2
  exact bodyPost_ret (v := .tuple #[.agg #[.slice a9 F.length c9, .slice x1 K1.length k1, .slice x2 K2.length k2], .int .i64 0]) (by simp [results, Tryz.results12, go_sem, T0.out, T1.out, T2.out]) rfl Hfin.out

set_option maxHeartbeats 2000000 in
theorem scovers_any (v0 v1 v2 u0 u1 u2 : Value) (g h : Bag) (U : List Dot) (w : World) (hr : BR3 v0 v1 v2 g w) (hs : BR3 u0 u1 u2 h w) (hg : BOk U g) (hh : BOk U h) (hU : U.length ≤ 200) :
    Calls Tryz.prog 28 #[.agg #[v0, v1, v2], .agg #[u0, u1, u2]] w fun e w' => e = .returned (.bool (decide (bjoin g h = g))) ∧ Pure w w' := by
  obtain ⟨wz, hwz⟩ : ∃ wz, wz = (w.alloc (.cells #[v0, v1, v2] 33)).alloc (.cells #[u0, u1, u2] 33) := ⟨_, rfl⟩
  have Hpz := hid (show Pure w wz from by rw [hwz]; exact ((Below.refl _ _).alloc (Nat.le_refl _) _).alloc (by simp) _)
  have HA := hid (show BX w.heap.size v0 v1 v2 g wz from ⟨by rw [hwz]; exact block_alloc_old (block_alloc_new _ _) _, hr.pure Hpz.out⟩)
  have HB := hid (show BX (w.heap.size + 1) u0 u1 u2 h wz from ⟨by
    have := block_alloc_new (w.alloc (.cells #[v0, v1, v2] 33)) (.cells #[u0, u1, u2] 33)
    rw [World.size_alloc] at this
    rw [hwz]; exact this, hs.pure Hpz.out⟩)
  have hS : Hid (∀ W, Pure wz W → (W.cell? ⟨w.heap.size, 0, none⟩ = some v0 ∧ W.cell? ⟨w.heap.size, 1, none⟩ = some v1 ∧ W.cell? ⟨w.heap.size, 2, none⟩ = some v2 ∧ W.cell? ⟨w.heap.size + 1, 0, none⟩ = some u0 ∧ W.cell? ⟨w.heap.size + 1, 1, none⟩ = some u1 ∧ W.cell? ⟨w.heap.size + 1, 2, none⟩ = some u2 ∧ Pure wz W)) := fun W hW => by
    obtain ⟨e0, e1, e2⟩ := (HA.out.pure hW).cells
    obtain ⟨e3, e4, e5⟩ := (HB.out.pure hW).cells
    exact ⟨e0, e1, e2, e3, e4, e5, hW⟩
  have hS2 : Hid (∀ W : World, (W.cell? ⟨w.heap.size, 0, none⟩ = some v0 ∧ W.cell? ⟨w.heap.size, 1, none⟩ = some v1 ∧ W.cell? ⟨w.heap.size, 2, none⟩ = some v2 ∧ W.cell? ⟨w.heap.size + 1, 0, none⟩ = some u0 ∧ W.cell? ⟨w.heap.size + 1, 1, none⟩ = some u1 ∧ W.cell? ⟨w.heap.size + 1, 2, none⟩ = some u2 ∧ Pure wz W) → Pure wz W) := fun W h => h.2.2.2.2.2.2
  have hst := hid (hS.out wz.drew (Below.refl _ _).drew)
  have hjn := hid (fun W (hW : Pure wz W) => sjoin_any _ _ _ _ _ _ g h U U W (HA.out.pure hW).r (HB.out.pure hW).r hg hh hU hU)
  have hsm := hid (fun W (hW : Pure wz W) s0 s1 s2 (hs : BR3 s0 s1 s2 (bjoin g h) W) => mbsame_any _ _ (bjoin g h) g W hs.at (HA.out.pure hW).r.at)
  unfold BagO at hjn
  generalize bjoin g h = J at *
  generalize decide (J = g) = D at *
  clear hr hs hg hh
  go_enter Tryz.func28, Tryz.ntmps28
  go_wp2_with fail
  rw [← hwz]
  clear hwz
  go_region_held3 (fun W => W.cell? ⟨w.heap.size, 0, none⟩ = some v0 ∧ W.cell? ⟨w.heap.size, 1, none⟩ = some v1 ∧ W.cell? ⟨w.heap.size, 2, none⟩ = some v2 ∧ W.cell? ⟨w.heap.size + 1, 0, none⟩ = some u0 ∧ W.cell? ⟨w.heap.size + 1, 1, none⟩ = some u1 ∧ W.cell? ⟨w.heap.size + 1, 2, none⟩ = some u2 ∧ Pure wz W)
    (first | with_reducible exact hst.out | with_reducible assumption | with_reducible exact hS.out _ (Pure.then_ (hS2.out _ (by assumption)) (by assumption)))
    ((first
      | (go_at_call 13; (with_reducible refine (hjn.out _ (hS2.out _ (by assumption))).mono ?_); rintro e w7 ⟨s0, s1, s2, rfl, h7, hp7, _⟩)
      | (go_at_call 31; (refine (hsm.out _ (hS2.out _ (by assumption)) _ _ _ h7).mono ?_); rintro e w9 ⟨rfl, hp9⟩)))
  have H9 := hid (Hpz.out.then_ (hS2.out w9 (by assumption)))
  clear h7 hp7 hp9 hst hS hS2 hjn hsm
  go_wp2
  go_ret
  exact ⟨rfl, H9.out⟩
end Go.Proofs.YtbcbmnifbflmaaaGreat

namespace Go.Proofs.YtbcbmnifbflmaaaGreat
open Go.RowKit Go.Maps Go.Shelf Go.Sort

theorem bs_list3 (l : List UInt8) : (bs l).toList = l := ByteArray.toList_mk l
def mA : Msg := ((1, 1), [113], [], 0)
theorem gA_eq : bput ([], [], []) mA = ([mA], [(1, 1)], []) := by decide +kernel
theorem gB_eq : bremove ([mA], [(1, 1)], []) (1, 1) = ([], [(1, 1)], []) := by decide +kernel
theorem gC_eq : bjoin ([mA], [(1, 1)], []) ([], [(1, 1)], []) = ([], [(1, 1)], []) := by decide +kernel

set_option maxRecDepth 8000 in
set_option maxHeartbeats 1000000 in
theorem clone_nil (w : World) : Calls Tryz.prog 41 #[.slice none 0 0] w fun e w' => e = .returned (.slice none 0 0) ∧ Pure w w' := by
  have he := Lib.run_eql_slice_nil (P := Tryz.prog) w 22 41 none 0 0 0 0 Tryz.underlying22
  simp only [Option.isNone_none] at he
  go_enter Tryz.func41, Tryz.ntmps41
  go_wp2
  go_ret
  exact ⟨rfl, Below.refl _ _⟩
set_option maxRecDepth 8000 in
set_option maxHeartbeats 1000000 in
theorem ins_nil (u : Value) (m : Msg) (w : World) (hu : Row w u 1 5 (mvs [m])) :
    Calls Tryz.prog 58 #[.slice none 0 0, .int .i64 0, u] w fun e w' => ∃ v', e = .returned v' ∧ w'.ownsRow w.heap.size 41 5 v' 1 (mvs [m]) ∧ Pure w w' := by
  obtain ⟨a, c, rfl⟩ := Row.shape hu
  have Hu := hid hu
  clear hu
  go_enter Tryz.func58, Tryz.ntmps58
  go_wp2_with (at_builtin; refine wpList_append_msgs rfl _ _ rfl w.heap.size (.slice none 0 0) [] 0 rfl (World.ownsRow_nil _ _ _ _) _ [m] 1 rfl Hu.out (by omega) (Nat.le_refl _) ?_)
  intro v' w' hown hg
  have Hown := hid (show w'.ownsRow w.heap.size 41 5 v' 1 (mvs [m]) by simpa using hown)
  have Hp := hid (show Pure w w' from (Below.refl _ _).grown hg (Nat.le_refl _) (fun k hk => by simp [Value.ownBlock] at hk))
  clear hown hg
  go_wp2
  go_ret
  exact ⟨_, rfl, Hown.out, Hp.out⟩
set_option maxRecDepth 8000 in
set_option maxHeartbeats 1000000 in
theorem may_A (w : World) : Calls Tryz.prog 57 #[mv mA] w fun e w' => e = .returned (.bool true) ∧ Pure w w' := by
  obtain ⟨wz, hwz⟩ : ∃ wz, wz = w.alloc (.cells #[.int .i64 1, .int .i64 1, .string (bs [113]), .string (bs []), .int .i64 0] 41) := ⟨_, rfl⟩
  have Hp := hid (show Pure w wz from by rw [hwz]; exact (Below.refl _ _).alloc (Nat.le_refl _) _)
  have Hm := hid (show MX w.heap.size mA wz from by rw [hwz]; exact MX.made w mA)
  have hc := hid (show Calls Tryz.prog 39 #[.agg #[.int .i64 1, .int .i64 1]] wz fun e w' => e = .returned (.bool true) ∧ Pure wz w' from by
    have := chk_any (1, 1) wz
    rw [show dchk (1, 1) = true from by decide] at this
    exact this)
  have e1 : ((bs [113]).toList == ([] : List UInt8)) = false := by rw [bs_list3]; rfl
  have e2 : (bs [113]).size = 1 := by decide
  have e3 : (bs ([] : List UInt8)).size = 0 := by decide
  have e4 : ((bs [113]).toList != ([] : List UInt8)) = true := by rw [bs_list3]; rfl
  have e5 : ((bs [113]).toList = ([] : List UInt8)) = False := by simp [bs_list3]
  obtain ⟨x0, x1, x2, x3, x4⟩ := Hm.out.cells
  rw [hwz] at x0 x1 x2 x3 x4
  unfold mv mA
  dsimp only
  go_enter Tryz.func57, Tryz.ntmps57
  go_wp2_with fail
  rw [← hwz]
  clear hwz x0 x1 x2 x3 x4
  refine hc.out.mono ?_
  rintro e w1 ⟨rfl, hp1⟩
  obtain ⟨x0, x1, x2, x3, x4⟩ := (Hm.out.pure hp1).cells
  have Hp1 := hid (Hp.out.then_ hp1)
  clear hp1
  go_wp2
  go_ret
  exact ⟨rfl, Hp1.out⟩

theorem litm1 (W : World) (o : Obj) (m : Msg) : Row ((W.alloc o).alloc (.cells #[.int .i64 m.1.1, .int .i64 m.1.2, .string (bs m.2.1), .string (bs m.2.2.1), .int .i64 m.2.2.2] 41)) (.slice (some ⟨W.heap.size + 1, 0, none⟩) 1 1) 1 5 (mvs [m]) := by
  have := msgs_lit (W.alloc o) m
  rwa [World.size_alloc] at this
theorem litd1 (W : World) (o : Obj) (x y : Int) : Dots ((W.alloc o).alloc (.cells #[.int .i64 x, .int .i64 y] 28)) (.slice (some ⟨W.heap.size + 1, 0, none⟩) 1 1) [(x, y)] := by
  have := dots_lit (W.alloc o) x y
  rwa [World.size_alloc] at this
theorem litmA (W : World) : Row (W.alloc (.cells #[.int .i64 1, .int .i64 1, .string (bs [113]), .string (bs []), .int .i64 0] 41)) (.slice (some ⟨W.heap.size, 0, none⟩) 1 1) 1 5 (mvs [mA]) := msgs_lit W mA
theorem litmA1 (W : World) (o : Obj) : Row ((W.alloc o).alloc (.cells #[.int .i64 1, .int .i64 1, .string (bs [113]), .string (bs []), .int .i64 0] 41)) (.slice (some ⟨W.heap.size + 1, 0, none⟩) 1 1) 1 5 (mvs [mA]) := litm1 W o mA
theorem litdA (W : World) : Dots (W.alloc (.cells #[.int .i64 1, .int .i64 1] 28)) (.slice (some ⟨W.heap.size, 0, none⟩) 1 1) [(1, 1)] := dots_lit W 1 1
theorem litdA1 (W : World) (o : Obj) : Dots ((W.alloc o).alloc (.cells #[.int .i64 1, .int .i64 1] 28)) (.slice (some ⟨W.heap.size + 1, 0, none⟩) 1 1) [(1, 1)] := litd1 W o 1 1
theorem alp (W : World) (o : Obj) : Pure W (W.alloc o) := (Below.refl _ _).alloc (Nat.le_refl _) _
theorem drp (W : World) : Pure W W.drew := (Below.refl _ _).drew
theorem RPutW.drew {s : Nat} {w5 W : World} (h : RPutW s w5 W) : RPutW s w5 W.drew := h.pure (Below.refl _ _).drew

set_option maxRecDepth 8000 in
set_option maxHeartbeats 8000000 in
theorem sput_A (w : World) : Calls Tryz.prog 19 #[.agg #[.slice none 0 0, .slice none 0 0, .slice none 0 0], mv mA] w (BagT w ([mA], [(1, 1)], []) 0) := by
  obtain ⟨wz, hwz⟩ : ∃ wz, wz = ((w.alloc (.cells #[.slice none 0 0, .slice none 0 0, .slice none 0 0] 33)).alloc (.cells #[.int .i64 1, .int .i64 1, .string (bs [113]), .string (bs []), .int .i64 0] 41)).alloc (.cells #[.slice none 0 0, .slice none 0 0, .slice none 0 0] 33) := ⟨_, rfl⟩
  have Hpz := hid (show Pure w wz from by rw [hwz]; exact (((Below.refl _ _).alloc (Nat.le_refl _) _).alloc (by simp) _).alloc (by simp; omega) _)
  have Hsz := hid (show wz.heap.size = w.heap.size + 3 from by rw [hwz]; simp)
  have hbk : Hid (BX w.heap.size (.slice none 0 0) (.slice none 0 0) (.slice none 0 0) ([], [], []) wz ∧ MX (w.heap.size + 1) mA wz ∧ RsB (w.heap.size + 2) wz) := by
    show _ ∧ _ ∧ _
    have n0 := block_alloc_new w (.cells #[.slice none 0 0, .slice none 0 0, .slice none 0 0] 33)
    have n1 := block_alloc_new (w.alloc (.cells #[.slice none 0 0, .slice none 0 0, .slice none 0 0] 33)) (.cells #[.int .i64 1, .int .i64 1, .string (bs [113]), .string (bs []), .int .i64 0] 41)
    have n2 := block_alloc_new ((w.alloc (.cells #[.slice none 0 0, .slice none 0 0, .slice none 0 0] 33)).alloc (.cells #[.int .i64 1, .int .i64 1, .string (bs [113]), .string (bs []), .int .i64 0] 41)) (.cells #[.slice none 0 0, .slice none 0 0, .slice none 0 0] 33)
    rw [World.size_alloc] at n1
    rw [World.size_alloc, World.size_alloc] at n2
    rw [hwz]
    exact ⟨⟨block_alloc_old (block_alloc_old n0 _) _, BR3.nil _⟩, ⟨block_alloc_old n1 _⟩, n2⟩
  have HC : Hid (∀ W, Pure wz W → (W.cell? ⟨w.heap.size, 0, none⟩ = some (.slice none 0 0) ∧ W.cell? ⟨w.heap.size, 1, none⟩ = some (.slice none 0 0) ∧ W.cell? ⟨w.heap.size, 2, none⟩ = some (.slice none 0 0) ∧ W.cell? ⟨w.heap.size + 1, 0, none⟩ = some (.int .i64 1) ∧ W.cell? ⟨w.heap.size + 1, 1, none⟩ = some (.int .i64 1) ∧ W.cell? ⟨w.heap.size + 1, 2, none⟩ = some (.string (bs [113])) ∧ W.cell? ⟨w.heap.size + 1, 3, none⟩ = some (.string (bs [])) ∧ W.cell? ⟨w.heap.size + 1, 4, none⟩ = some (.int .i64 0))) := fun W hW => by
    obtain ⟨e0, e1, e2⟩ := (hbk.out.1.pure hW).cells
    obtain ⟨g0, g1, g2, g3, g4⟩ := (hbk.out.2.1.pure hW).cells
    exact ⟨e0, e1, e2, g0, g1, g2, g3, g4⟩
  have hmay := hid (may_A wz)
  have sx : Sml 0 (([], []) : List Dot × List Dot) := ⟨COk.nil, Nat.le_refl _, Nat.le_refl _⟩
  have hhas := hid (fun W => (show Calls Tryz.prog 46 #[.agg #[.slice none 0 0, .slice none 0 0], .agg #[.int .i64 1, .int .i64 1]] W fun e w' => e = .returned (.bool false) ∧ Pure W w' from by
    have := hasB (x0 := .slice none 0 0) (x1 := .slice none 0 0) (X := ([], [])) (W := W) (1, 1) ⟨Row.nil _ _, Row.nil _ _⟩ sx (Nat.zero_le _)
    rw [show chas ([] : List Dot) [] (1, 1) = false from by decide] at this
    exact this))
  have hfind := hid (fun W => (show Calls Tryz.prog 49 #[.slice none 0 0, .agg #[.int .i64 1, .int .i64 1]] W fun e w' => e = .returned (.tuple #[.int .i64 0, .bool false]) ∧ Pure W w' from sfind_any (.slice none 0 0) [] (1, 1) W (Row.nil _ _)))
  have hcl := hid clone_nil
  have hin := hid (fun u W (hu : Row W u 1 5 (mvs [mA])) => ins_nil u mA W hu)
  have hadd := hid (fun W v (hv : Dots W v [(1, 1)]) => (show Calls Tryz.prog 43 #[.agg #[.slice none 0 0, .slice none 0 0], v] W (CtxF W [(1, 1)] []) from by
    have := add_any (.slice none 0 0) (.slice none 0 0) v [] [] [(1, 1)] W (Row.nil _ _) (Row.nil _ _) hv (by simp) sx.j
    rw [show cjoin [] [] [] (dsort ([(1, 1)].filter dchk)) = ([(1, 1)], []) from by decide +kernel] at this
    exact this))
  unfold CtxF at hadd
  clear sx
  unfold mv mA
  dsimp only
  unfold mv mA at hmay
  dsimp only at hmay
  obtain ⟨f0, f1, f2, g0, g1, g2, g3, g4⟩ := HC.out wz (Below.refl _ _)
  rw [hwz] at f0 f1 f2 g0 g1 g2 g3 g4
  go_enter Tryz.func19, Tryz.ntmps19
  go_wp2_with fail
  rw [← hwz]
  clear hwz f0 f1 f2 g0 g1 g2 g3 g4
  refine hmay.out.mono ?_
  rintro e w1 ⟨rfl, hp1⟩
  obtain ⟨f0, f1, f2, g0, g1, g2, g3, g4⟩ := HC.out w1 hp1
  have Hp1 := hid hp1
  clear hp1
  go_wp2_with fail
  refine (hhas.out w1).mono ?_
  rintro e w2 ⟨rfl, hp2⟩
  have Hp2 := hid (Hp1.out.then_ hp2)
  clear f0 f1 f2 g0 g1 g2 g3 g4 hp2
  obtain ⟨f0, f1, f2, g0, g1, g2, g3, g4⟩ := HC.out w2 Hp2.out
  go_wp2_with fail
  refine (hfind.out w2).mono ?_
  rintro e w5 ⟨rfl, hp5⟩
  have Hp5 := hid (Hp2.out.then_ hp5)
  clear f0 f1 f2 g0 g1 g2 g3 g4 hp5
  have hz5 := hid (Hpz.out.then_ Hp5.out)
  have hs5 := hid (show w.heap.size + 3 ≤ w5.heap.size from by have := Hp5.out.size; have := Hsz.out; omega)
  have hb5 := hid (show w5.heap[w.heap.size + 2]? = some (.cells #[.slice none 0 0, .slice none 0 0, .slice none 0 0] 33 (0, 0)) from (Hp5.out.block _ (lt_of_block hbk.out.2.2)).trans hbk.out.2.2)
  have hS : Hid (∀ W, RPutW w.heap.size w5 W → (W.cell? ⟨w.heap.size, 0, none⟩ = some (.slice none 0 0) ∧ W.cell? ⟨w.heap.size, 1, none⟩ = some (.slice none 0 0) ∧ W.cell? ⟨w.heap.size, 2, none⟩ = some (.slice none 0 0) ∧ W.cell? ⟨w.heap.size + 1, 0, none⟩ = some (.int .i64 1) ∧ W.cell? ⟨w.heap.size + 1, 1, none⟩ = some (.int .i64 1) ∧ W.cell? ⟨w.heap.size + 1, 2, none⟩ = some (.string (bs [113])) ∧ W.cell? ⟨w.heap.size + 1, 3, none⟩ = some (.string (bs [])) ∧ W.cell? ⟨w.heap.size + 1, 4, none⟩ = some (.int .i64 0) ∧ RPutW w.heap.size w5 W)) := fun W hQ => by
    have hW := hQ.1
    have e0 := hbk.out.1.pure Hp5.out
    have e1 := hbk.out.2.1.pure Hp5.out
    have := hs5.out
    have e2 := (hW.block _ (lt_of_block e0.b) (by omega)).trans e0.b
    have e3 := (hW.block _ (lt_of_block e1.b) (by omega)).trans e1.b
    exact ⟨cell_of_block e2 0, cell_of_block e2 1, cell_of_block e2 2, cell_of_block e3 0, cell_of_block e3 1, cell_of_block e3 2, cell_of_block e3 3, cell_of_block e3 4, hQ⟩
  have hS2 : Hid (∀ W : World, (W.cell? ⟨w.heap.size, 0, none⟩ = some (.slice none 0 0) ∧ W.cell? ⟨w.heap.size, 1, none⟩ = some (.slice none 0 0) ∧ W.cell? ⟨w.heap.size, 2, none⟩ = some (.slice none 0 0) ∧ W.cell? ⟨w.heap.size + 1, 0, none⟩ = some (.int .i64 1) ∧ W.cell? ⟨w.heap.size + 1, 1, none⟩ = some (.int .i64 1) ∧ W.cell? ⟨w.heap.size + 1, 2, none⟩ = some (.string (bs [113])) ∧ W.cell? ⟨w.heap.size + 1, 3, none⟩ = some (.string (bs [])) ∧ W.cell? ⟨w.heap.size + 1, 4, none⟩ = some (.int .i64 0) ∧ RPutW w.heap.size w5 W) → RPutW w.heap.size w5 W) := fun W h => h.2.2.2.2.2.2.2.2
  have hst := hid (hS.out w5.drew ⟨(Kept.refl _ _).drew, _, _, _, hb5.out⟩)
  have hst2 := hid (fun o => hS.out (w5.alloc o).drew ⟨((Kept.refl _ _).alloc o).drew, _, _, _, block_alloc_old hb5.out o⟩)
  have hst3 := hid (fun o o' => hS.out ((w5.alloc o).alloc o').drew ⟨(((Kept.refl _ _).alloc o).alloc o').drew, _, _, _, block_alloc_old (block_alloc_old hb5.out o) o'⟩)
  obtain ⟨f0, f1, f2, g0, g1, g2, g3, g4⟩ := HC.out w5 Hp5.out
  go_wp2_with fail
  go_region_held3 (fun W => W.cell? ⟨w.heap.size, 0, none⟩ = some (.slice none 0 0) ∧ W.cell? ⟨w.heap.size, 1, none⟩ = some (.slice none 0 0) ∧ W.cell? ⟨w.heap.size, 2, none⟩ = some (.slice none 0 0) ∧ W.cell? ⟨w.heap.size + 1, 0, none⟩ = some (.int .i64 1) ∧ W.cell? ⟨w.heap.size + 1, 1, none⟩ = some (.int .i64 1) ∧ W.cell? ⟨w.heap.size + 1, 2, none⟩ = some (.string (bs [113])) ∧ W.cell? ⟨w.heap.size + 1, 3, none⟩ = some (.string (bs [])) ∧ W.cell? ⟨w.heap.size + 1, 4, none⟩ = some (.int .i64 0) ∧ RPutW w.heap.size w5 W)
    (first | with_reducible exact hst.out | with_reducible assumption | with_reducible exact hst2.out _ | with_reducible exact hst3.out _ _ | with_reducible exact hS.out _ (RPutW.pure (hS2.out _ (by assumption)) (by assumption)) | with_reducible exact hS.out _ (RPutW.alloc (hS2.out _ (by assumption)) _) | with_reducible exact hS.out _ (RPutW.set (RPutW.set (RPutW.set (hS2.out _ (by assumption)) _ _) _ _) _ _))
    ((first
      | (go_at_call 41; refine (hcl.out _).mono ?_; rintro e w6 ⟨rfl, hp6⟩)
      | (go_at_call 58; refine (hin.out _ _ ?_).mono ?_; (repeat (first | exact litmA _ | exact litmA1 _ _ | with_reducible refine Row.pure ?_ (drp _) | with_reducible refine Row.pure ?_ (alp _ _) | with_reducible refine Row.pure ?_ (by assumption))); rintro e w7 ⟨v7, rfl, hown7, hp7⟩; obtain ⟨a7, c7, rfl⟩ : ∃ a c, v7 = .slice a 1 c := own_shape_d hown7; obtain ⟨t0, t1, t2, r0, r1, r2, u0, u1, u2⟩ := RPutW.cells (RPutW.pure (hS2.out _ (by assumption)) hp7); have hQ7 := hid (RPutW.pure (hS2.out _ (by assumption)) hp7); have hge7 := hid (RPutW.ge (hS2.out _ (by assumption)) hp7))
      | (go_at_call 43; refine (hadd.out _ _ ?_).mono ?_; (repeat (first | exact litdA _ | exact litdA1 _ _ | with_reducible refine Dots.pure ?_ (drp _) | with_reducible refine Dots.pure ?_ (alp _ _) | with_reducible refine Dots.pure ?_ (by assumption))); rintro e w8 ⟨v0, v1, rfl, hd0, hd1, hp8, hf0, hf1⟩; obtain ⟨p0, k0, rfl⟩ : ∃ a c, v0 = .slice a 1 c := hd0.shape; obtain ⟨p1, k1, rfl⟩ : ∃ a c, v1 = .slice a 0 c := hd1.shape; obtain ⟨t0, t1, t2, r0, r1, r2, u0, u1, u2⟩ := RPutW.cells (RPutW.pure (hS2.out _ (by assumption)) hp8); have hQ8 := hid (RPutW.pure (hS2.out _ (by assumption)) hp8); have hge8 := hid (RPutW.ge (hS2.out _ (by assumption)) hp8))))
  all_goals
    (first
      | (have hPd := (show Pure w8 w7 from hp7); have hF := hid (put_fin (M := [mA]) (B := [(1, 1)]) (C := []) hz5.out hs5.out hQ7.out hown7 hge7.out (Dots.pure hd0 hPd) (Dots.pure hd1 hPd) hge8.out hf0 hf1); clear hPd)
      | (have hPd := (show Pure w8 w7 from (alp _ _).then_ hp7); have hF := hid (put_fin (M := [mA]) (B := [(1, 1)]) (C := []) hz5.out hs5.out hQ7.out hown7 hge7.out (Dots.pure hd0 hPd) (Dots.pure hd1 hPd) hge8.out hf0 hf1); clear hPd)
      | (have hPd := (show Pure w8 w7 from hp6.then_ hp7); have hF := hid (put_fin (M := [mA]) (B := [(1, 1)]) (C := []) hz5.out hs5.out hQ7.out hown7 hge7.out (Dots.pure hd0 hPd) (Dots.pure hd1 hPd) hge8.out hf0 hf1); clear hPd)
      | (have hPd := (show Pure w8 w7 from (alp _ _).then_ (hp6.then_ hp7)); have hF := hid (put_fin (M := [mA]) (B := [(1, 1)]) (C := []) hz5.out hs5.out hQ7.out hown7 hge7.out (Dots.pure hd0 hPd) (Dots.pure hd1 hPd) hge8.out hf0 hf1); clear hPd)
      | (have hPd := (show Pure w8 w7 from hp6.then_ ((alp _ _).then_ hp7)); have hF := hid (put_fin (M := [mA]) (B := [(1, 1)]) (C := []) hz5.out hs5.out hQ7.out hown7 hge7.out (Dots.pure hd0 hPd) (Dots.pure hd1 hPd) hge8.out hf0 hf1); clear hPd)
      | (have hPd := (show Pure w7 w8 from hp8); have hF := hid (put_fin (M := [mA]) (B := [(1, 1)]) (C := []) hz5.out hs5.out hQ8.out (own_pure hown7 hPd) hge7.out hd0 hd1 hge8.out hf0 hf1); clear hPd)
      | (have hPd := (show Pure w7 w8 from (alp _ _).then_ hp8); have hF := hid (put_fin (M := [mA]) (B := [(1, 1)]) (C := []) hz5.out hs5.out hQ8.out (own_pure hown7 hPd) hge7.out hd0 hd1 hge8.out hf0 hf1); clear hPd))
    clear hown7 hp7 hd0 hd1 hp8 hf0 hf1
    go_wp2
    refine bodyPost_ret (v := .tuple #[.agg #[.slice a7 1 c7, .slice p0 1 k0, .slice p1 0 k1], .int .i64 0]) (by simp [results, Tryz.results19, go_sem, hF.out.1, hF.out.2.1, hF.out.2.2.1]) rfl ?_
    exact ⟨_, _, _, rfl, BR3.of hF.out.2.2.2.1, hF.out.2.2.2.2.1, hF.out.2.2.2.2.2 _ _ _ rfl⟩
end Go.Proofs.YtbcbmnifbflmaaaGreat

namespace Go.Proofs.YtbcbmnifbflmaaaGreat
open Go.RowKit Go.Maps Go.Shelf Go.Sort

theorem okA5 : BOk U64 ([mA], [(1, 1)], []) := by
  have := (BOk.nil U64).put (m := mA) (by decide) (by decide) (by decide)
  rwa [gA_eq] at this
theorem okB5 : BOk U64 ([], [(1, 1)], []) := by
  have := okA5.remove (d := (1, 1)) (by decide)
  rwa [gB_eq] at this
theorem U64_le5 : U64.length ≤ 200 := by rw [U64_len]; decide

set_option maxRecDepth 8000 in
set_option maxHeartbeats 8000000 in
theorem awake5_any (w : World) : Calls Tryz.prog 9 #[] w fun e w' => e = .returned (.bool true) ∧ Pure w w' := by
  obtain ⟨wz, hwz⟩ : ∃ wz, wz = w.alloc (.cells #[.int .i64 1, .int .i64 1] 28) := ⟨_, rfl⟩
  have Hpz := hid (show Pure w wz from by rw [hwz]; exact (Below.refl _ _).alloc (Nat.le_refl _) _)
  have n0 : wz.heap[w.heap.size]? = some (.cells #[.int .i64 1, .int .i64 1] 28 (0, 0)) := by rw [hwz]; exact block_alloc_new _ _
  have hD : Hid (∀ W, Pure wz W → (W.cell? ⟨w.heap.size, 0, none⟩ = some (.int .i64 1) ∧ W.cell? ⟨w.heap.size, 1, none⟩ = some (.int .i64 1))) := fun W hW => by
    have e0 := (hW.block _ (lt_of_block n0)).trans n0
    exact ⟨cell_of_block e0 0, cell_of_block e0 1⟩
  clear n0
  obtain ⟨gA, hgA⟩ : ∃ g : Bag, g = ([mA], [(1, 1)], []) := ⟨_, rfl⟩
  obtain ⟨gB, hgB⟩ : ∃ g : Bag, g = ([], [(1, 1)], []) := ⟨_, rfl⟩
  have hP := hid (show Calls Tryz.prog 19 _ wz (BagT wz gA 0) from by have := sput_A wz; rw [← hgA] at this; exact this)
  have HgA := hid hgA
  have HgB := hid hgB
  have okA := hid (show BOk U64 gA from by rw [hgA]; exact okA5)
  have okB := hid (show BOk U64 gB from by rw [hgB]; exact okB5)
  have hrm := hid (show bremove gA (1, 1) = gB from by rw [hgA, hgB]; exact gB_eq)
  have hjn := hid (show bjoin gA gB = gB from by rw [hgA, hgB]; exact gC_eq)
  have hget := hid (show lget gA.1 (1, 1) = some mA from by rw [hgA]; decide)
  unfold BagT mv mA at hP
  dsimp only at hP
  clear hgA hgB
  go_enter Tryz.func9, Tryz.ntmps9
  go_wp2_with fail
  rw [← hwz]
  clear hwz
  refine (hP.out).mono ?_
  rintro e wq ⟨x0, x1, x2, rfl, hr, hp, hf⟩
  have hX := BX.made hr
  obtain ⟨y10, k10, rfl⟩ := hr.1.shape
  obtain ⟨y11, k11, rfl⟩ := hr.2.1.shape
  obtain ⟨y12, k12, rfl⟩ := hr.2.2.shape
  obtain ⟨v1, hv1⟩ : ∃ W, W = wq.alloc (.cells #[.slice y10 gA.1.length k10, .slice y11 gA.2.1.length k11, .slice y12 gA.2.2.length k12] 33) := ⟨_, rfl⟩
  rw [← hv1] at hX
  have P1 := hid (show Pure wz v1 from hp.then_ (by rw [hv1]; exact (Below.refl _ _).alloc (Nat.le_refl _) _))
  have HX1 := hid (fun W (hW : Pure v1 W) => hX.pure hW)
  have hsz1 := hid (show wq.heap.size < v1.heap.size from by rw [hv1]; simp)
  have hse1 := hid (show v1.heap.size = wq.heap.size + 1 from by rw [hv1]; simp)
  clear hr hp hf hX
  generalize hn1 : wq.heap.size = na at *
  obtain ⟨hD_0, hD_1⟩ := (hD.out v1 P1.out)
  obtain ⟨HX1_0, HX1_1, HX1_2⟩ := (HX1.out v1 (Below.refl _ _)).cells
  rw [hv1] at hD_0 hD_1 HX1_0 HX1_1 HX1_2
  go_wp2_with fail
  rw [← hv1]
  clear hD_0 hD_1 HX1_0 HX1_1 HX1_2
  clear hv1 hn1
  clear hP
  have hR := hid (show Calls Tryz.prog 12 _ v1 (BagT v1 gB 0) from by
    have := sremove_any _ _ _ gA (1, 1) U64 v1 (HX1.out v1 (Below.refl _ _)).r okA.out (Nat.le_trans U64_le5 (by decide)) (by decide)
    rw [hrm.out] at this
    exact this)
  unfold BagT dv at hR
  dsimp only at hR
  refine (hR.out).mono ?_
  rintro e wq ⟨x0, x1, x2, rfl, hr, hp, hf⟩
  have hX := BX.made hr
  obtain ⟨y20, k20, rfl⟩ := hr.1.shape
  obtain ⟨y21, k21, rfl⟩ := hr.2.1.shape
  obtain ⟨y22, k22, rfl⟩ := hr.2.2.shape
  obtain ⟨v2, hv2⟩ : ∃ W, W = wq.alloc (.cells #[.slice y20 gB.1.length k20, .slice y21 gB.2.1.length k21, .slice y22 gB.2.2.length k22] 33) := ⟨_, rfl⟩
  rw [← hv2] at hX
  have P2 := hid (show Pure v1 v2 from hp.then_ (by rw [hv2]; exact (Below.refl _ _).alloc (Nat.le_refl _) _))
  have HX2 := hid (fun W (hW : Pure v2 W) => hX.pure hW)
  have hsz2 := hid (show wq.heap.size < v2.heap.size from by rw [hv2]; simp)
  have hse2 := hid (show v2.heap.size = wq.heap.size + 1 from by rw [hv2]; simp)
  clear hr hp hf hX
  generalize hn2 : wq.heap.size = nb at *
  obtain ⟨hD_0, hD_1⟩ := (hD.out v2 (P1.out.then_ P2.out))
  obtain ⟨HX1_0, HX1_1, HX1_2⟩ := (HX1.out v2 P2.out).cells
  obtain ⟨HX2_0, HX2_1, HX2_2⟩ := (HX2.out v2 (Below.refl _ _)).cells
  rw [hv2] at hD_0 hD_1 HX1_0 HX1_1 HX1_2 HX2_0 HX2_1 HX2_2
  go_wp2_with fail
  rw [← hv2]
  clear hD_0 hD_1 HX1_0 HX1_1 HX1_2 HX2_0 HX2_1 HX2_2
  clear hv2 hn2
  clear hR
  have hJ := hid (show Calls Tryz.prog 13 _ v2 (BagO v2 gB) from by
    have := sjoin_any _ _ _ _ _ _ gA gB U64 U64 v2 (HX1.out v2 P2.out).r (HX2.out v2 (Below.refl _ _)).r okA.out okB.out U64_le5 U64_le5
    rw [hjn.out] at this
    exact this)
  unfold BagO at hJ
  skip
  refine (hJ.out).mono ?_
  rintro e wq ⟨x0, x1, x2, rfl, hr, hp, hf⟩
  have hX := BX.made hr
  obtain ⟨y30, k30, rfl⟩ := hr.1.shape
  obtain ⟨y31, k31, rfl⟩ := hr.2.1.shape
  obtain ⟨y32, k32, rfl⟩ := hr.2.2.shape
  obtain ⟨v3, hv3⟩ : ∃ W, W = wq.alloc (.cells #[.slice y30 gB.1.length k30, .slice y31 gB.2.1.length k31, .slice y32 gB.2.2.length k32] 33) := ⟨_, rfl⟩
  rw [← hv3] at hX
  have P3 := hid (show Pure v2 v3 from hp.then_ (by rw [hv3]; exact (Below.refl _ _).alloc (Nat.le_refl _) _))
  have HX3 := hid (fun W (hW : Pure v3 W) => hX.pure hW)
  have hsz3 := hid (show wq.heap.size < v3.heap.size from by rw [hv3]; simp)
  have hse3 := hid (show v3.heap.size = wq.heap.size + 1 from by rw [hv3]; simp)
  clear hr hp hf hX
  generalize hn3 : wq.heap.size = nc at *
  obtain ⟨hD_0, hD_1⟩ := (hD.out v3 (P1.out.then_ (P2.out.then_ P3.out)))
  obtain ⟨HX1_0, HX1_1, HX1_2⟩ := (HX1.out v3 (P2.out.then_ P3.out)).cells
  obtain ⟨HX2_0, HX2_1, HX2_2⟩ := (HX2.out v3 P3.out).cells
  obtain ⟨HX3_0, HX3_1, HX3_2⟩ := (HX3.out v3 (Below.refl _ _)).cells
  rw [hv3] at hD_0 hD_1 HX1_0 HX1_1 HX1_2 HX2_0 HX2_1 HX2_2 HX3_0 HX3_1 HX3_2
  go_wp2_with fail
  rw [← hv3]
  clear hD_0 hD_1 HX1_0 HX1_1 HX1_2 HX2_0 HX2_1 HX2_2 HX3_0 HX3_1 HX3_2
  clear hv3 hn3
  clear hJ
  have hG := hid (show Calls Tryz.prog 14 _ v3 fun e w' => e = .returned (getR (lget gA.1 (1, 1))) ∧ Pure v3 w' from sget_any _ _ _ gA (1, 1) v3 (HX1.out v3 (P2.out.then_ P3.out)).r okA.out.r)
  rw [hget.out] at hG
  unfold getR dv mv mA at hG
  dsimp only [Option.getD_some, Option.isSome_some] at hG
  refine hG.out.mono ?_
  rintro e w8 ⟨rfl, hp⟩
  have P4 := hid (show Pure v3 w8 from hp)
  obtain ⟨w9, hw9⟩ : ∃ w9, w9 = w8.alloc (.cells #[.int .i64 1, .int .i64 1, .string (bs [113]), .string (bs []), .int .i64 0] 41) := ⟨_, rfl⟩
  have P5 := hid (show Pure w8 w9 from by rw [hw9]; exact (Below.refl _ _).alloc (Nat.le_refl _) _)
  clear hp hG
  obtain ⟨hD_0, hD_1⟩ := (hD.out w9 (P1.out.then_ (P2.out.then_ (P3.out.then_ (P4.out.then_ P5.out)))))
  obtain ⟨HX3_0, HX3_1, HX3_2⟩ := (HX3.out w9 (P4.out.then_ P5.out)).cells
  have hc0 : gB.1.length = 0 := by rw [HgB.out]; rfl
  have hc1 : gB.2.1.length = 1 := by rw [HgB.out]; rfl
  have hdd := (HX3.out w9 (P4.out.then_ P5.out)).r.2.1
  obtain ⟨bd, od, e, hbd, x0, x1⟩ := Dots.get hdd (k := 0) (by rw [hc1]; decide)
  rw [show gB.2.1.getD 0 (0, 0) = (1, 1) from by rw [HgB.out]; rfl] at x0 x1
  dsimp only at x0 x1
  clear hdd
  subst e
  simp only [Nat.zero_mul, Nat.add_zero] at x0 x1
  have heq2 := fun W => dot_eqIn W 1 1 1 1
  have htt : (decide ((1 : Int) = 1) && decide ((1 : Int) = 1)) = true := by decide
  rw [htt] at heq2
  clear htt hbd
  rw [hw9] at hD_0 hD_1 HX3_0 HX3_1 HX3_2 x0 x1
  go_wp2_with fail
  rw [← hw9] at *
  clear hw9
  go_quiet (fail)
  go_wp2
  go_ret
  exact ⟨rfl, (Hpz.out.then_ (P1.out.then_ (P2.out.then_ (P3.out.then_ (P4.out.then_ P5.out))))).then_ (pure_drewN _ _)⟩
end Go.Proofs.YtbcbmnifbflmaaaGreat

