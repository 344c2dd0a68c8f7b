/- CtxNext. -/
import Derived.Test.YtimcjkimehhgcaaLH
namespace Go.Proofs.Ytimcjkimehhgcaa
open Go.RowKit Go.Maps Go.Shelf Go.Sort

theorem and40 (n : Int) : 0 ≤ bits .and .i64 n 1099511627775 ∧ bits .and .i64 n 1099511627775 ≤ 1099511627775 := by
  show 0 ≤ IntKind.i64.wrap ((BitVec.ofInt 64 n &&& BitVec.ofInt 64 1099511627775).toNat : Int) ∧ IntKind.i64.wrap ((BitVec.ofInt 64 n &&& BitVec.ofInt 64 1099511627775).toNat : Int) ≤ 1099511627775
  have hx : (BitVec.ofInt 64 n &&& BitVec.ofInt 64 1099511627775).toNat ≤ 1099511627775 := by
    rw [BitVec.toNat_and]
    exact Nat.le_trans Nat.and_le_right (by decide)
  rw [IntWalk.i64_in _ (by omega)]
  omega
theorem and7 (n : Int) : 0 ≤ bits .and .i64 n 7 ∧ bits .and .i64 n 7 ≤ 7 := by
  show 0 ≤ IntKind.i64.wrap ((BitVec.ofInt 64 n &&& BitVec.ofInt 64 7).toNat : Int) ∧ IntKind.i64.wrap ((BitVec.ofInt 64 n &&& BitVec.ofInt 64 7).toNat : Int) ≤ 7
  have hx : (BitVec.ofInt 64 n &&& BitVec.ofInt 64 7).toNat ≤ 7 := by
    rw [BitVec.toNat_and]
    exact Nat.le_trans Nat.and_le_right (by decide)
  rw [IntWalk.i64_in _ (by omega)]
  omega
/-- A context to which a few names were added. -/
structure NI (k : Nat) (X : List Dot × List Dot) : Prop where
  ok : COk X.1 X.2
  l0 : X.1.length ≤ 24 + 20 * k
  l1 : X.2.length ≤ 12 + k
theorem NI.sml {k : Nat} {X : List Dot × List Dot} (h : NI k X) (hk : k ≤ 7) : Sml 164 X := ⟨h.ok, by have := h.l0; omega, by have := h.l1; omega⟩
theorem NI.add {k : Nat} {X : List Dot × List Dot} (h : NI k X) (hk : k < 7) (d : Dot) : NI (k + 1) (Ad X [d]) := by
  have hl := cjoin_len h.ok.wk (CWk.cloud (adds_ok [d]))
  have h3 : (dsort ([d].filter dchk)).length ≤ 1 := Nat.le_trans (dsort_len _) (List.length_filter_le _ _)
  have := h.l0; have := h.l1
  simp only [List.length_nil] at hl
  exact ⟨Ad.ok h.ok _, by unfold Ad; omega, by unfold Ad; omega⟩
theorem NI.more {k : Nat} {X : List Dot × List Dot} (h : NI k X) (hk : k ≤ 7) (l : List Dot) (hl2 : l.length ≤ 39) : Sml 230 (Ad X l) := by
  have hl := cjoin_len h.ok.wk (CWk.cloud (adds_ok l))
  have h3 : (dsort (l.filter dchk)).length ≤ l.length := Nat.le_trans (dsort_len _) (List.length_filter_le _ _)
  have := h.l0; have := h.l1
  simp only [List.length_nil] at hl
  exact ⟨Ad.ok h.ok _, by unfold Ad; omega, by unfold Ad; omega⟩
theorem NI.made (B C : List Dot) : NI 0 (madeC B C) := ⟨(madeC_ok B C).1, (madeC_ok B C).2.1, (madeC_ok B C).2.2⟩
/-- The context x (block nx) and the name n (block nn) while names are added. -/
structure XN (nx nn : Nat) (x0 x1 : Value) (X : List Dot × List Dot) (id n : Int) (wb W : World) : Prop where
  b : W.heap[nx]? = some (.cells #[x0, x1] 24 (0, 0))
  r : CR x0 x1 X W
  f0 : ∀ k, x0.rb = some k → k ≠ nx ∧ k ≠ nn
  f1 : ∀ k, x1.rb = some k → k ≠ nx ∧ k ≠ nn
  d : W.heap[nn]? = some (.cells #[.int .i64 id, .int .i64 n] 30 (0, 0))
  ne : nx ≠ nn
  k : Kept (fun k => k = nx ∨ k = nn) wb W
section
variable {nx nn : Nat} {x0 x1 u0 u1 : Value} {X Y : List Dot × List Dot} {id n m : Int} {wb W W' : World}
theorem XN.pure (h : XN nx nn x0 x1 X id n wb W) (hp : Pure W W') : XN nx nn x0 x1 X id n wb W' :=
  ⟨(hp.block _ (lt_of_block h.b)).trans h.b, h.r.pure hp, h.f0, h.f1, (hp.block _ (lt_of_block h.d)).trans h.d, h.ne, h.k.trans hp.kept⟩
theorem XN.cells (h : XN nx nn x0 x1 X id n wb W) : W.cell? ⟨nx, 0, none⟩ = some x0 ∧ W.cell? ⟨nx, 1, none⟩ = some x1 ∧ W.cell? ⟨nn, 0, none⟩ = some (.int .i64 id) ∧ W.cell? ⟨nn, 1, none⟩ = some (.int .i64 n) :=
  ⟨cell_of_block h.b 0, cell_of_block h.b 1, cell_of_block h.d 0, cell_of_block h.d 1⟩
theorem XN.free (h : XN nx nn x0 x1 X id n wb W) : W.frozen? ⟨nx, 0, none⟩ = false ∧ W.frozen? ⟨nx, 1, none⟩ = false ∧ W.frozen? ⟨nn, 0, none⟩ = false ∧ W.frozen? ⟨nn, 1, none⟩ = false :=
  ⟨free_of_block h.b 0, free_of_block h.b 1, free_of_block h.d 0, free_of_block h.d 1⟩
theorem XN.setx (h : XN nx nn x0 x1 X id n wb W) (hy : CR u0 u1 Y W) (g0 : ∀ k, u0.rb = some k → k ≠ nx ∧ k ≠ nn) (g1 : ∀ k, u1.rb = some k → k ≠ nx ∧ k ≠ nn) :
    XN nx nn u0 u1 Y id n wb ((W.setCell ⟨nx, 0, none⟩ u0).setCell ⟨nx, 1, none⟩ u1) := by
  have hk : Kept (fun k => k = nx) W ((W.setCell ⟨nx, 0, none⟩ u0).setCell ⟨nx, 1, none⟩ u1) := (kept_set W nx 0 u0).trans (kept_set _ nx 1 u1)
  exact ⟨by have := block_setCell (block_setCell h.b 0 u0) 1 u1; simpa using this, ⟨Row.kept hy.1 hk (fun k hk' e => (g0 k hk').1 e), Row.kept hy.2 hk (fun k hk' e => (g1 k hk').1 e)⟩, g0, g1,
    (hk.block _ (lt_of_block h.d) (fun e => h.ne e.symm)).trans h.d, h.ne, h.k.trans (hk.mono (fun k _ e => .inl e))⟩
theorem XN.setn (h : XN nx nn x0 x1 X id n wb W) : XN nx nn x0 x1 X id m wb ((W.setCell ⟨nn, 0, none⟩ (.int .i64 id)).setCell ⟨nn, 1, none⟩ (.int .i64 m)) := by
  have hk : Kept (fun k => k = nn) W ((W.setCell ⟨nn, 0, none⟩ (.int .i64 id)).setCell ⟨nn, 1, none⟩ (.int .i64 m)) := (kept_set W nn 0 _).trans (kept_set _ nn 1 _)
  exact ⟨(hk.block _ (lt_of_block h.b) h.ne).trans h.b, ⟨Row.kept h.r.1 hk (fun k hk' e => (h.f0 k hk').2 e), Row.kept h.r.2 hk (fun k hk' e => (h.f1 k hk').2 e)⟩, h.f0, h.f1,
    by have := block_setCell (block_setCell h.d 0 (.int .i64 id)) 1 (.int .i64 m); simpa using this, h.ne, h.k.trans (hk.mono (fun k _ e => .inr e))⟩
end
set_option maxRecDepth 8000 in
set_option maxHeartbeats 16000000 in
theorem next_walk (va vb : Value) (A0 A1 : List Dot) (node times : Int) (w : World) (h1 : Dots w va A0) (h2 : Dots w vb A1) :
    Calls Try.prog 7 #[.agg #[va, vb], .int .i64 node, .int .i64 times] w fun e w' => e = .returned (.bool true) ∧ Pure w w' := by
  obtain ⟨we, hwe⟩ : ∃ we, we = w.alloc (.cells #[va, vb] 24) := ⟨_, rfl⟩
  have hpe : Pure w we := by rw [hwe]; exact (Below.refl _ _).alloc (Nat.le_refl _) _
  have hcb : we.heap[w.heap.size]? = some (.cells #[va, vb] 24 (0, 0)) := by rw [hwe]; exact block_alloc_new _ _
  have Hpe := hid hpe
  have HS0 := hid (fun W (hW : Pure we W) => (show W.cell? ⟨w.heap.size, 0, none⟩ = some va ∧ W.cell? ⟨w.heap.size, 1, none⟩ = some vb from by
    have e0 := (hW.block _ (lt_of_block hcb)).trans hcb
    exact ⟨cell_of_block e0 0, cell_of_block e0 1⟩))
  have Hma := hid (fun W (hW : Pure we W) => made_any va vb A0 A1 W (Row.pure h1 (Hpe.out.then_ hW)) (Row.pure h2 (Hpe.out.then_ hW)))
  have SX := hid (NI.made A0 A1)
  unfold CtxF cv at Hma
  generalize madeC A0 A1 = X at *
  clear h1 h2 hcb hpe
  obtain ⟨a, ha⟩ : ∃ a, bits .and .i64 node 1099511627775 = a := ⟨_, rfl⟩
  obtain ⟨T, hT⟩ : ∃ T : Nat, bits .and .i64 times 7 = (T : Int) := ⟨(bits .and .i64 times 7).toNat, by have := and7 times; omega⟩
  have hT7 : T ≤ 7 := by have := and7 times; omega
  have ha1 : 0 ≤ a ∧ a ≤ 1099511627775 := by rw [← ha]; exact and40 node
  obtain ⟨ha0, ha1⟩ := ha1
  obtain ⟨id, hide⟩ : ∃ id, 1 + a = id := ⟨_, rfl⟩
  have hw1 : IntKind.i64.wrap (1 + a) = id := by rw [IntWalk.i64_in _ (by omega)]; exact hide
  have hid1 : 1 ≤ id ∧ id ≤ 1099511627776 := by omega
  have Hid1 := hid hid1
  clear hid1
  go_enter Try.func7, Try.ntmps7
  go_wp2_with fail
  rw [← hwe]
  clear hwe
  refine (awake_any we).mono ?_
  rintro e w1 ⟨rfl, hp1⟩
  have Hp1 := hid hp1
  obtain ⟨f0, f1⟩ := HS0.out w1 hp1
  clear hp1
  go_wp2_with fail
  refine (Hma.out w1 Hp1.out).mono ?_
  rintro e wxa ⟨x0, x1, rfl, hx0, hx1, hpxa, hxf0, hxf1⟩
  have Hpxa := hid (show we.heap.size ≤ wxa.heap.size from (Hp1.out.then_ hpxa).size)
  have hxlt0 := Row.lt hx0
  have hxlt1 := Row.lt hx1
  have hxf0 := hid (fun k (hk : x0.rb = some k) => (show k < wxa.heap.size from hxlt0 k hk))
  have hxf1 := hid (fun k (hk : x1.rb = some k) => (show k < wxa.heap.size from hxlt1 k hk))
  clear hxlt0 hxlt1
  have Cx := hid (CB.made (w := wxa) (X := X) hx0 hx1)
  obtain ⟨ax0, cx0, rfl⟩ := hx0.shape
  obtain ⟨ax1, cx1, rfl⟩ := hx1.shape
  obtain ⟨wx, hwx⟩ : ∃ wx, wx = wxa.alloc (.cells #[.slice ax0 X.1.length cx0, .slice ax1 X.2.length cx1] 24) := ⟨_, rfl⟩
  have hpxb : Pure wxa wx := by rw [hwx]; exact (Below.refl _ _).alloc (Nat.le_refl _) _
  have hpxc := hid (hpxa.then_ hpxb)
  have Hpx := hid (Hp1.out.then_ hpxc.out)
  rw [← hwx] at Cx
  clear hpxa hpxb hx0 hx1
  clear f0 f1
  generalize hnx : wxa.heap.size = nx at *
  obtain ⟨f0, f1⟩ := Cx.out.cells
  rw [hwx] at f0 f1
  have hnx := hid (nextB id Cx.out.cr (SX.out.sml (by decide)) (by decide))
  go_wp2_with fail
  rw [← hwx]
  clear hwx f0 f1
  refine hnx.out.mono ?_
  rintro e w2 ⟨rfl, hp2⟩
  have hc0 := cnx_bd SX.out.ok id
  generalize hcn : cnx X.1 X.2 id = c0 at *
  have Hcn := hid hcn
  clear hcn
  obtain ⟨w3, hw3⟩ : ∃ w3, w3 = w2.alloc (.cells #[.int .i64 id, .int .i64 (c0 + 1)] 30) := ⟨_, rfl⟩
  have hp3 : Pure w2 w3 := by rw [hw3]; exact (Below.refl _ _).alloc (Nat.le_refl _) _
  have hd3 : w3.heap[w2.heap.size]? = some (.cells #[.int .i64 id, .int .i64 (c0 + 1)] 30 (0, 0)) := by rw [hw3]; exact block_alloc_new _ _
  have hxl := lt_of_block Cx.out.b
  have hs2 := hp2.size
  have HI0 : Hid (XN nx w2.heap.size (.slice ax0 X.1.length cx0) (.slice ax1 X.2.length cx1) X id (c0 + 1) w3 w3) :=
    ⟨((hp2.then_ hp3).block _ hxl).trans Cx.out.b, Cx.out.cr.pure (hp2.then_ hp3), fun k hk => by have := hxf0.out k hk; have := Row.lt Cx.out.r0 k hk; omega, fun k hk => by have := hxf1.out k hk; have := Row.lt Cx.out.r1 k hk; omega, hd3, by omega, Kept.refl _ _⟩
  have Hp3 := hid (Hpx.out.then_ (hp2.then_ hp3))
  have Hpw := hid (fun W (hW : Kept (fun k => k = nx ∨ k = w2.heap.size) w3 W) => (show Pure w W from by
    have hw1 : Pure w w3 := Hpe.out.then_ Hp3.out
    have hs := Hpe.out.size
    have hs2 := Hpxa.out
    have h2 : Kept (fun k => w.heap.size ≤ k) w W := hw1.kept.trans (hW.mono (fun k _ e => by omega))
    exact h2.below (Nat.le_refl _) (fun k hk e => by omega)))
  clear hp2 hp3 hd3 hxl hs2 hnx Cx Hma HS0 hpxc Hpx Hp1
  generalize hnn : w2.heap.size = nn at *
  obtain ⟨c00, c01⟩ := hc0
  by_cases hbig : 1073741824 < c0 + 1
  · have HIW := hid (fun W (hW : Pure w3 W) => HI0.out.pure hW)
    obtain ⟨g0, g1, g2, g3⟩ := HI0.out.cells
    rw [hw3] at g0 g1 g2 g3
    have hh := hid (hasB (id, c0 + 1) HI0.out.r (SX.out.sml (by decide)) (by decide))
    have hnw := next_new X id
    rw [Hcn.out] at hnw
    rw [hnw] at hh
    clear hnw
    go_wp2_with fail
    rw [← hw3]
    clear hw3 g0 g1 g2 g3 hnn
    refine hh.out.mono ?_
    rintro e w4 ⟨rfl, hp4⟩
    have hx := hid (Hpw.out w4 (Kept.trans (Kept.refl _ _) hp4.kept))
    clear hp4
    go_wp2
    go_ret
    exact ⟨rfl, hx.out⟩
  · obtain ⟨g0, g1, g2, g3⟩ := HI0.out.cells
    rw [hw3] at g0 g1 g2 g3
    have hbig' : ¬ 1073741824 < c0 + 1 := hbig
    go_upto_if 28 with fail
    rw [← hw3]
    clear hw3 g0 g1 g2 g3 hnn
    generalize Value.slice ax0 X.1.length cx0 = x0 at *
    generalize Value.slice ax1 X.2.length cx1 = x1 at *
    go_wp2_with fail
    go_loopw [11] (fun i wr => ∃ (k : Nat) (Z : List Dot × List Dot) (z0 z1 : Value), k ≤ T ∧ i = .int .i64 k ∧ NI k Z ∧ cnx Z.1 Z.2 id = c0 + k ∧ XN nx nn z0 z1 Z id (c0 + k + 1) w3 wr) (fun i _ => T - (RowKit.intOf i).toNat)
    case atStart => exact ⟨0, X, x0, x1, Nat.zero_le _, rfl, SX.out, by rw [Hcn.out]; simp, by simpa using HI0.out⟩
    case round =>
      obtain ⟨k, Z, z0, z1, hk, rfl, hZ, hcz, hI⟩ := hrel
      have HI := hid hI
      have HZ := hid hZ
      have Hcz := hid hcz
      clear hI hZ hcz
      by_cases hlt : k < T
      · have hlt' : (k : Int) < (T : Int) := by omega
        have hk7 : k < 7 := by omega
        obtain ⟨n, hne⟩ : ∃ n, n = c0 + (k : Int) + 1 := ⟨_, rfl⟩
        have hn1 : cnx Z.1 Z.2 id + 1 = n := by rw [Hcz.out]; omega
        have hn2 : 1 ≤ n ∧ n ≤ 1099511627776 := by omega
        have hadd := cnx_add HZ.out.ok Hid1.out (by omega)
        rw [hn1] at hadd
        rw [← hne] at HI
        have SZ := hid (HZ.out.sml (show k ≤ 7 by omega))
        have NZ := hid (HZ.out.add hk7 (id, n))
        have hh := hid (hasB (id, n) HI.out.r SZ.out (by decide))
        have hnw := next_new Z id
        rw [hn1] at hnw
        rw [hnw] at hh
        obtain ⟨g0, g1, g2, g3⟩ := HI.out.cells
        have hidb : (id != id) = false := by simp
        have Hne := hid hne
        have Hadd := hid hadd
        have Hn1 := hid hn1
        obtain ⟨hn3, hn4⟩ := hn2
        clear hne hadd hnw hn1
        go_wp2_with fail
        refine hh.out.mono ?_
        rintro e w4 ⟨rfl, hp4⟩
        have HI4 := hid (HI.out.pure hp4)
        clear g0 g1 g2 g3 hp4 hh
        obtain ⟨g0, g1, g2, g3⟩ := HI4.out.cells
        obtain ⟨W5, hW5⟩ : ∃ W5, W5 = w4.alloc (.cells #[.int .i64 id, .int .i64 n] 30) := ⟨_, rfl⟩
        have hp5 : Pure w4 W5 := by rw [hW5]; exact (Below.refl _ _).alloc (Nat.le_refl _) _
        have hr5 : Dots W5 (.slice (some ⟨w4.heap.size, 0, none⟩) 1 1) [(id, n)] := by rw [hW5]; exact dots_lit w4 id n
        have HI5 := hid (HI4.out.pure hp5)
        have ha := hid (add_any z0 z1 _ Z.1 Z.2 [(id, n)] W5 HI5.out.r.1 HI5.out.r.2 hr5 (by have := SZ.out.l0; have := SZ.out.l1; simp only [List.length_cons, List.length_nil]; omega) SZ.out.j)
        unfold CtxF cv at ha
        have hnn5 := lt_of_block HI5.out.d
        have hnx5 := lt_of_block HI5.out.b
        clear hp5 hr5
        go_wp2_with fail
        rw [← hW5]
        clear hW5 g0 g1 g2 g3
        refine ha.out.mono ?_
        rintro e w6 ⟨u0, u1, rfl, hu0, hu1, hp6, hf0, hf1⟩
        have hHI6 := HI5.out.pure hp6
        have hset := hHI6.setx (Y := Ad Z [(id, n)]) ⟨hu0, hu1⟩ (fun k hk => by have := hf0 k hk; omega) (fun k hk => by have := hf1 k hk; omega)
        obtain ⟨g0, g1, _, _⟩ := hHI6.cells
        obtain ⟨g2, g3, _, _⟩ := hHI6.free
        obtain ⟨b0, q0, rfl⟩ := hu0.shape
        obtain ⟨b1, q1, rfl⟩ := hu1.shape
        have hshow : (cjoin Z.1 Z.2 [] (dsort ([(id, n)].filter dchk))) = Ad Z [(id, n)] := rfl
        rw [hshow] at hset ⊢
        obtain ⟨w7, hw7⟩ : ∃ w7, w7 = (w6.setCell ⟨nx, 0, none⟩ (.slice b0 (Ad Z [(id, n)]).1.length q0)).setCell ⟨nx, 1, none⟩ (.slice b1 (Ad Z [(id, n)]).2.length q1) := ⟨_, rfl⟩
        rw [← hw7] at hset
        have HI7 := hid hset
        have SA := hid (NZ.out.sml (show k + 1 ≤ 7 by omega))
        have hnx7 := hid (nextB id HI7.out.r SA.out (by decide))
        rw [Hadd.out.2] at hnx7
        obtain ⟨f0, f1, _, _⟩ := HI7.out.cells
        rw [hw7] at f0 f1
        clear hu0 hu1 hp6 hf0 hf1 hHI6 hset ha hnn5 hnx5 hshow
        generalize Ad Z [(id, n)] = A at *
        go_wp2_with fail
        rw [← hw7]
        clear hw7 f0 f1 g0 g1 g2 g3
        generalize Value.slice b0 A.1.length q0 = u0 at *
        generalize Value.slice b1 A.2.length q1 = u1 at *
        refine hnx7.out.mono ?_
        rintro e w8 ⟨rfl, hp8⟩
        obtain ⟨w9, hw9⟩ : ∃ w9, w9 = w8.alloc (.cells #[.int .i64 id, .int .i64 (n + 1)] 30) := ⟨_, rfl⟩
        have hp9 : Pure w8 w9 := by rw [hw9]; exact (Below.refl _ _).alloc (Nat.le_refl _) _
        have hd9 : DB w8.heap.size (id, n + 1) w9 := by rw [hw9]; exact block_alloc_new _ _
        have HI9 := hid (HI7.out.pure (hp8.then_ hp9))
        have Hd9 := hid (fun W (hW : Pure w9 W) => (hd9.pure hW).cells)
        have hh9 := hid (hasB (id, n) HI9.out.r SA.out (by decide))
        rw [Hadd.out.1] at hh9
        obtain ⟨f0, f1, f2, f3⟩ := HI9.out.cells
        rw [hw9] at f0 f1 f2 f3
        clear hp8 hp9 hd9 hnx7
        generalize hnm : w8.heap.size = nm at *
        go_wp2_with fail
        rw [← hw9]
        clear hw9 f0 f1 f2 f3 hnm
        refine hh9.out.mono ?_
        rintro e w10 ⟨rfl, hp10⟩
        have HI10 := hid (HI9.out.pure hp10)
        have Hp10 := hid hp10
        have hck := hid (checkB HI10.out.r SA.out (by decide))
        obtain ⟨f0, f1, f2, f3⟩ := HI10.out.cells
        obtain ⟨m0, m1⟩ := Hd9.out w10 hp10
        have hnn : (n + 1 != n + 1) = false := by simp
        have hwn : IntKind.i64.wrap (n + 1) = n + 1 := IntWalk.i64_in _ (by omega)
        clear hp10 hh9
        go_wp2_with fail
        refine hck.out.mono ?_
        rintro e w11 ⟨rfl, hp11⟩
        clear f0 f1 f2 f3 m0 m1
        have hHI11 := HI10.out.pure hp11
        obtain ⟨m0, m1⟩ := Hd9.out w11 (Hp10.out.then_ hp11)
        obtain ⟨_, _, f2, f3⟩ := hHI11.cells
        obtain ⟨_, _, f4, f5⟩ := hHI11.free
        have HI11 := hid (hHI11.setn (m := n + 1))
        have He1 := hid (show c0 + ((k + 1 : Nat) : Int) + 1 = n + 1 from by rw [Hne.out]; omega)
        have HeA := hid (show cnx A.1 A.2 id = c0 + ((k + 1 : Nat) : Int) from by rw [Hadd.out.2, Hne.out]; omega)
        clear hHI11 hp11 hck
        go_wp2
        go_roundw
        case rel => exact ⟨k + 1, A, u0, u1, by omega, by go_num, NZ.out, HeA.out, by rw [He1.out]; exact HI11.out⟩
        case measure => simp [RowKit.intOf]; omega
      · obtain rfl : k = T := by omega
        have hlt' : ¬ (k : Int) < (k : Int) := by omega
        obtain ⟨N, hN⟩ : ∃ N, N = c0 + (k : Int) := ⟨_, rfl⟩
        rw [← hN] at HI Hcz
        have hN1 : 0 ≤ N ∧ N ≤ 1073741900 := by omega
        obtain ⟨hN0, hN1⟩ := hN1
        have SZ := hid (HZ.out.sml hT7)
        have hup0 := hid (upto_any z0 z1 Z.1 id wr HI.out.r.1 SZ.out.j.sb (fun d hd => (SZ.out.bd d hd).1) (by have := SZ.out.l0; omega))
        obtain ⟨k00, k01⟩ := cbase_bds SZ.out.ok.bok id
        have hkN := cnx_ge_base Z.1 Z.2 id
        rw [Hcz.out] at hkN
        have hall := hid (fun j hj => next_all SZ.out.ok Hid1.out j hj)
        rw [Hcz.out] at hall
        generalize hk0 : cbase Z.1 id = k0 at *
        have Hk0 := hid hk0
        obtain ⟨g0, g1, _, _⟩ := HI.out.cells
        unfold cv at hup0
        clear hk0 hN
        go_wp2_with fail
        refine hup0.out.mono ?_
        rintro e wq ⟨rfl, hpq⟩
        have HIq := hid (HI.out.pure hpq)
        clear hpq hup0 g0 g1 HI
        have hwk : IntKind.i64.wrap (k0 + 1) = k0 + 1 := IntWalk.i64_in _ (by omega)
        have hwk2 : IntKind.i64.wrap (k0 + 40) = k0 + 40 := IntWalk.i64_in _ (by omega)
        obtain ⟨i0, hi, hz0, hz1, hz2⟩ := info_parts infoDot
        go_wp2_with fail
        go_loopw [13, 15] (fun v i wr => ∃ j : Nat, j ≤ 39 ∧ k0 + j ≤ N ∧ i = .int .i64 (k0 + 1 + j) ∧ wr.ownsRow wq.heap.size 30 2 v (upto id k0 j).length (dvs (upto id k0 j)) ∧ Pure wq wr) (fun _ i _ => (k0 + 41 - RowKit.intOf i).toNat)
        case atStart => exact ⟨0, by omega, by omega, by simp, World.ownsRow_nil _ _ _ _, Below.refl _ _⟩
        case round =>
          obtain ⟨j, hj, hjN, rfl, hown, hp⟩ := hrel
          have hjl := upto_len id k0 j
          rw [hjl] at hown
          have Hown := hid hown
          have Hp := hid hp
          obtain ⟨a3, c3, rfl⟩ := own_shape_d hown
          obtain ⟨_, _, _, g3⟩ := (HIq.out.pure hp).cells
          by_cases hgo : k0 + 1 + (j : Int) < N + 1 ∧ j < 39
          · obtain ⟨hg1, hg2⟩ := hgo
            have hg3 : k0 + 1 + (j : Int) < k0 + 40 := by omega
            have hwj : IntKind.i64.wrap (k0 + 1 + (j : Int) + 1) = k0 + 1 + (j : Int) + 1 := IntWalk.i64_in _ (by omega)
            have b1 : wq.heap.size ≤ (wr.alloc (.cells #[.int .i64 id, .int .i64 (k0 + 1 + (j : Int))] 30)).heap.size := by have := hp.size; simp; omega
            clear hown hp
            go_wp2_with (at_builtin; refine wpList_append_dots rfl _ _ rfl wq.heap.size _ (upto id k0 j) j rfl (Hown.out.alloc _) _ [(id, k0 + 1 + (j : Int))] 1 rfl (dots_lit wr id (k0 + 1 + (j : Int))) (by omega) b1 ?_)
            intro v2 w2 hown2 hg2'
            have Hown2 := hid hown2
            have Hg2 := hid ((Hp.out.alloc Hp.out.size _).grown hg2' (by have := Hp.out.size; simp; omega) (fun k hk => (Hown.out.lt k hk).1))
            clear hown2 hg2' g3
            go_wp2
            go_roundw
            case rel => exact ⟨j + 1, by omega, by omega, by congr 1; omega, by rw [upto_len]; exact Hown2.out, Hg2.out⟩
            case measure => simp [RowKit.intOf]; omega
          · have hend : (¬ k0 + 1 + (j : Int) < N + 1 ∨ (k0 + 1 + (j : Int) < N + 1 ∧ ¬ k0 + 1 + (j : Int) < k0 + 40)) := by omega
            have hjj : k0 + (j : Int) = N ∨ j = 39 := by omega
            have HIr := hid (HIq.out.pure hp)
            have hrow := hid (show Dots wr (.slice a3 j c3) (upto id k0 j) from by unfold Dots; rw [hjl]; exact Row.of_own hown)
            have hadd := hid (add_any z0 z1 _ Z.1 Z.2 (upto id k0 j) wr HIr.out.r.1 HIr.out.r.2 hrow.out (by have := SZ.out.l0; have := SZ.out.l1; omega) SZ.out.j)
            unfold CtxF cv at hadd
            have hshow : (cjoin Z.1 Z.2 [] (dsort ((upto id k0 j).filter dchk))) = Ad Z (upto id k0 j) := rfl
            rw [hshow] at hadd
            have SA := hid (HZ.out.more hT7 (upto id k0 j) (by omega))
            have hcov := ad_covers SZ.out.ok (upto id k0 j)
            have hup1 : k0 + (j : Int) = N → cbase (Ad Z (upto id k0 j)).1 id = N := fun e => by
              have := hall.out j (by omega)
              exact this
            generalize Ad Z (upto id k0 j) = A at *
            obtain ⟨g0, g1, _, _⟩ := HIr.out.cells
            have Hup1 := hid hup1
            have Hjj := hid hjj
            have Hcov := hid hcov
            clear hown hp hshow hup1 hjj hcov
            rcases hend with hend | ⟨he1, he2⟩
            all_goals go_wp2_with fail
            all_goals
              refine hadd.out.mono ?_
              rintro e wya ⟨y0, y1, rfl, hy0, hy1, hpy, _, _⟩
              have Cy := hid (CB.made (w := wya) (X := A) hy0 hy1)
              obtain ⟨b0, q0, rfl⟩ := hy0.shape
              obtain ⟨b1, q1, rfl⟩ := hy1.shape
              obtain ⟨wy, hwy⟩ : ∃ wy, wy = wya.alloc (.cells #[.slice b0 A.1.length q0, .slice b1 A.2.length q1] 24) := ⟨_, rfl⟩
              have hpyb : Pure wya wy := by rw [hwy]; exact (Below.refl _ _).alloc (Nat.le_refl _) _
              rw [← hwy] at Cy
              have HIy := hid (HIr.out.pure (hpy.then_ hpyb))
              clear hy0 hy1 hpy hpyb g0 g1 g3
              generalize hny : wya.heap.size = ny at *
              go_wp2_with fail
              rw [← hwy]
              clear hwy hny
              generalize Value.slice b0 A.1.length q0 = y0 at *
              generalize Value.slice b1 A.2.length q1 = y1 at *
              have hcv := hid (fun W (hW : Pure wy W) => coversB (Cy.out.pure hW).cr (HIy.out.pure hW).r SA.out SZ.out (by decide))
              have e1 : decide (Jn A Z = A) = true := by rw [decide_eq_true_eq]; exact Hcov.out
              rw [e1] at hcv
              have hup := hid (fun W (hW : Pure wy W) => upto_any y0 y1 A.1 id W (Cy.out.pure hW).r0 SA.out.j.sb (fun d hd => (SA.out.bd d hd).1) (by have := SA.out.l0; omega))
              unfold cv at hup
              have hS : Hid (∀ W, Pure wy W → (W.cell? ⟨ny, 0, none⟩ = some y0 ∧ W.cell? ⟨ny, 1, none⟩ = some y1 ∧ W.cell? ⟨nx, 0, none⟩ = some z0 ∧ W.cell? ⟨nx, 1, none⟩ = some z1 ∧ W.cell? ⟨nn, 1, none⟩ = some (.int .i64 (N + 1)) ∧ Pure wy W)) := fun W hW => by
                obtain ⟨q1, q2, _, q4⟩ := (HIy.out.pure hW).cells
                exact ⟨(Cy.out.pure hW).cells.1, (Cy.out.pure hW).cells.2, q1, q2, q4, hW⟩
              have hst := hid (hS.out wy.drew (Below.refl _ _).drew)
              have hS2 : Hid (∀ W : World, (W.cell? ⟨ny, 0, none⟩ = some y0 ∧ W.cell? ⟨ny, 1, none⟩ = some y1 ∧ W.cell? ⟨nx, 0, none⟩ = some z0 ∧ W.cell? ⟨nx, 1, none⟩ = some z1 ∧ W.cell? ⟨nn, 1, none⟩ = some (.int .i64 (N + 1)) ∧ Pure wy W) → Pure wy W) := fun W h => h.2.2.2.2.2
              have hfin := hid (fun W (hW : Pure wy W) => Hpw.out W (HIy.out.pure hW).k)
              clear e1
              by_cases hN40 : k0 + 40 < N + 1
              · have hN40d : decide (k0 + 40 < N + 1) = true := by simpa using hN40
                refine wp_region_held_drew (S := (fun W => W.cell? ⟨ny, 0, none⟩ = some y0 ∧ W.cell? ⟨ny, 1, none⟩ = some y1 ∧ W.cell? ⟨nx, 0, none⟩ = some z0 ∧ W.cell? ⟨nx, 1, none⟩ = some z1 ∧ W.cell? ⟨nn, 1, none⟩ = some (.int .i64 (N + 1)) ∧ Pure wy W)) (by kernel_rfl) ?_ (fun hHeld => ?_)
                · first | assumption | with_reducible exact hst.out | with_reducible exact hS.out _ (Pure.then_ (hS2.out _ (by assumption)) (by assumption))
                refine wpAnyH_take (i := 0) (v := ?_) rfl (by kernel_rfl) (by kernel_rfl) (by kernel_rfl) (fun _ _ _ h => h) (Or.inl ⟨by rfl, ?_⟩) (by assumption) ?_
                rotate_left
                · intro w hSw; (try dsimp only at hSw); (try simp only [List.getElem_toArray, List.getElem_cons_zero]); go_simp; try with_reducible rfl
                try simp only [Act.put, List.setIfInBounds_toArray, List.set_cons_zero, List.set_cons_succ, List.getElem_toArray, List.getElem_cons_zero]
                refine wpAnyH_take (i := 1) (v := ?_) rfl (by kernel_rfl) (by kernel_rfl) (by kernel_rfl) (fun _ _ _ h => h) (Or.inl ⟨by rfl, ?_⟩) (by assumption) ?_
                rotate_left
                · intro w hSw; (try dsimp only at hSw); (try simp only [List.getElem_toArray, List.getElem_cons_succ, List.getElem_cons_zero]); go_simp; try with_reducible rfl
                try simp only [Act.put, List.setIfInBounds_toArray, List.set_cons_zero, List.set_cons_succ, List.getElem_toArray, List.getElem_cons_succ, List.getElem_cons_zero]
                refine wpAnyH_take (i := 2) (v := ?_) rfl (by kernel_rfl) (by kernel_rfl) (by kernel_rfl) (fun _ _ _ h => h) (Or.inl ⟨by rfl, ?_⟩) (by assumption) ?_
                rotate_left
                · intro w hSw; (try dsimp only at hSw); (try simp only [List.getElem_toArray, List.getElem_cons_succ, List.getElem_cons_zero]); go_simp; try with_reducible rfl
                try simp only [Act.put, List.setIfInBounds_toArray, List.set_cons_zero, List.set_cons_succ, List.getElem_toArray, List.getElem_cons_succ, List.getElem_cons_zero]
                refine wpAnyH_take (i := 3) (v := ?_) rfl (by kernel_rfl) (by kernel_rfl) (by kernel_rfl) (fun _ _ _ h => h) (Or.inl ⟨by rfl, ?_⟩) (by assumption) ?_
                rotate_left
                · intro w hSw; (try dsimp only at hSw); (try simp only [List.getElem_toArray, List.getElem_cons_succ, List.getElem_cons_zero]); go_simp; try with_reducible rfl
                try simp only [Act.put, List.setIfInBounds_toArray, List.set_cons_zero, List.set_cons_succ, List.getElem_toArray, List.getElem_cons_succ, List.getElem_cons_zero]
                refine wpAnyH_ready (rs := [4]) (by kernel_rfl) (by simp) ?_
                refine AllReadyH.cons rfl (fun K hK => ?_) AllReadyH.nil
                (try simp only [List.getElem_toArray, List.getElem_cons_succ, List.getElem_cons_zero])
                go_simp
                go_at_call 22; (with_reducible refine (hcv.out _ (hS2.out _ (by assumption))).mono ?_); rintro e wq ⟨rfl, hpq⟩; go_wp2_with fail
                refine hK.out _ _ ?_ (fun hHeld => ?_)
                · first | assumption | with_reducible exact hst.out | with_reducible exact hS.out _ (Pure.then_ (hS2.out _ (by assumption)) (by assumption))
                clear hK K
                try simp only [Act.put, List.setIfInBounds_toArray, List.set_cons_zero, List.set_cons_succ, List.getElem_toArray, List.getElem_cons_succ, List.getElem_cons_zero]
                refine wpAnyH_take (i := 5) (v := ?_) rfl (by kernel_rfl) (by kernel_rfl) (by kernel_rfl) (fun _ _ _ h => h) (Or.inl ⟨by rfl, ?_⟩) (by assumption) ?_
                rotate_left
                · intro w hSw; (try dsimp only at hSw); (try simp only [List.getElem_toArray, List.getElem_cons_succ, List.getElem_cons_zero]); go_simp; try with_reducible rfl
                try simp only [Act.put, List.setIfInBounds_toArray, List.set_cons_zero, List.set_cons_succ, List.getElem_toArray, List.getElem_cons_succ, List.getElem_cons_zero]
                refine wpAnyH_take (i := 6) (v := ?_) rfl (by kernel_rfl) (by kernel_rfl) (by kernel_rfl) (fun _ _ _ h => h) (Or.inl ⟨by rfl, ?_⟩) (by assumption) ?_
                rotate_left
                · intro w hSw; (try dsimp only at hSw); (try simp only [List.getElem_toArray, List.getElem_cons_succ, List.getElem_cons_zero]); go_simp; try with_reducible rfl
                try simp only [Act.put, List.setIfInBounds_toArray, List.set_cons_zero, List.set_cons_succ, List.getElem_toArray, List.getElem_cons_succ, List.getElem_cons_zero]
                refine wpAnyH_take (i := 7) (v := ?_) rfl (by kernel_rfl) (by kernel_rfl) (by kernel_rfl) (fun _ _ _ h => h) (Or.inl ⟨by rfl, ?_⟩) (by assumption) ?_
                rotate_left
                · intro w hSw; (try dsimp only at hSw); (try simp only [List.getElem_toArray, List.getElem_cons_succ, List.getElem_cons_zero]); go_simp; try with_reducible rfl
                try simp only [Act.put, List.setIfInBounds_toArray, List.set_cons_zero, List.set_cons_succ, List.getElem_toArray, List.getElem_cons_succ, List.getElem_cons_zero]
                refine wpAnyH_take (i := 8) (v := ?_) rfl (by kernel_rfl) (by kernel_rfl) (by kernel_rfl) (fun _ _ _ h => h) (Or.inl ⟨by rfl, ?_⟩) (by assumption) ?_
                rotate_left
                · intro w hSw; (try dsimp only at hSw); (try simp only [List.getElem_toArray, List.getElem_cons_succ, List.getElem_cons_zero]); go_simp; try with_reducible rfl
                try simp only [Act.put, List.setIfInBounds_toArray, List.set_cons_zero, List.set_cons_succ, List.getElem_toArray, List.getElem_cons_succ, List.getElem_cons_zero]
                refine wpAnyH_take (i := 9) (v := ?_) rfl (by kernel_rfl) (by kernel_rfl) (by kernel_rfl) (fun _ _ _ h => h) (Or.inl ⟨by rfl, ?_⟩) (by assumption) ?_
                rotate_left
                · intro w hSw; (try dsimp only at hSw); (try simp only [List.getElem_toArray, List.getElem_cons_succ, List.getElem_cons_zero]); go_simp; try with_reducible rfl
                try simp only [Act.put, List.setIfInBounds_toArray, List.set_cons_zero, List.set_cons_succ, List.getElem_toArray, List.getElem_cons_succ, List.getElem_cons_zero]
                refine wpAnyH_take (i := 10) (v := ?_) rfl (by kernel_rfl) (by kernel_rfl) (by kernel_rfl) (fun _ _ _ h => h) (Or.inl ⟨by rfl, ?_⟩) (by assumption) ?_
                rotate_left
                · intro w hSw; (try dsimp only at hSw); (try simp only [List.getElem_toArray, List.getElem_cons_succ, List.getElem_cons_zero]); go_simp; try with_reducible rfl
                try simp only [Act.put, List.setIfInBounds_toArray, List.set_cons_zero, List.set_cons_succ, List.getElem_toArray, List.getElem_cons_succ, List.getElem_cons_zero]
                refine wpAnyH_take (i := 11) (v := ?_) rfl (by kernel_rfl) (by kernel_rfl) (by kernel_rfl) (fun _ _ _ h => h) (Or.inl ⟨by rfl, ?_⟩) (by assumption) ?_
                rotate_left
                · intro w hSw; (try dsimp only at hSw); (try simp only [List.getElem_toArray, List.getElem_cons_succ, List.getElem_cons_zero]); go_simp; try with_reducible rfl
                try simp only [Act.put, List.setIfInBounds_toArray, List.set_cons_zero, List.set_cons_succ, List.getElem_toArray, List.getElem_cons_succ, List.getElem_cons_zero]
                refine wpAnyH_take (i := 12) (v := ?_) rfl (by kernel_rfl) (by kernel_rfl) (by kernel_rfl) (fun _ _ _ h => h) (Or.inl ⟨by rfl, ?_⟩) (by assumption) ?_
                rotate_left
                · intro w hSw; (try dsimp only at hSw); (try simp only [List.getElem_toArray, List.getElem_cons_succ, List.getElem_cons_zero]); go_simp; try with_reducible rfl
                try simp only [Act.put, List.setIfInBounds_toArray, List.set_cons_zero, List.set_cons_succ, List.getElem_toArray, List.getElem_cons_succ, List.getElem_cons_zero]
                refine wpAnyH_take (i := 13) (v := undef) rfl (by kernel_rfl) (by kernel_rfl) (by kernel_rfl) (fun _ _ _ h => h) (Or.inr ⟨by rfl, rfl⟩) (by assumption) ?_
                try simp only [Act.put, List.setIfInBounds_toArray, List.set_cons_zero, List.set_cons_succ, List.getElem_toArray, List.getElem_cons_succ, List.getElem_cons_zero]
                refine wpAnyH_take (i := 14) (v := undef) rfl (by kernel_rfl) (by kernel_rfl) (by kernel_rfl) (fun _ _ _ h => h) (Or.inr ⟨by rfl, rfl⟩) (by assumption) ?_
                try simp only [Act.put, List.setIfInBounds_toArray, List.set_cons_zero, List.set_cons_succ, List.getElem_toArray, List.getElem_cons_succ, List.getElem_cons_zero]
                refine wpAnyH_take (i := 15) (v := undef) rfl (by kernel_rfl) (by kernel_rfl) (by kernel_rfl) (fun _ _ _ h => h) (Or.inr ⟨by rfl, rfl⟩) (by assumption) ?_
                try simp only [Act.put, List.setIfInBounds_toArray, List.set_cons_zero, List.set_cons_succ, List.getElem_toArray, List.getElem_cons_succ, List.getElem_cons_zero]
                refine wpAnyH_take (i := 16) (v := undef) rfl (by kernel_rfl) (by kernel_rfl) (by kernel_rfl) (fun _ _ _ h => h) (Or.inr ⟨by rfl, rfl⟩) (by assumption) ?_
                try simp only [Act.put, List.setIfInBounds_toArray, List.set_cons_zero, List.set_cons_succ, List.getElem_toArray, List.getElem_cons_succ, List.getElem_cons_zero]
                refine wpAnyH_take (i := 17) (v := undef) rfl (by kernel_rfl) (by kernel_rfl) (by kernel_rfl) (fun _ _ _ h => h) (Or.inr ⟨by rfl, rfl⟩) (by assumption) ?_
                try simp only [Act.put, List.setIfInBounds_toArray, List.set_cons_zero, List.set_cons_succ, List.getElem_toArray, List.getElem_cons_succ, List.getElem_cons_zero]
                refine wpAnyH_take (i := 18) (v := undef) rfl (by kernel_rfl) (by kernel_rfl) (by kernel_rfl) (fun _ _ _ h => h) (Or.inr ⟨by rfl, rfl⟩) (by assumption) ?_
                try simp only [Act.put, List.setIfInBounds_toArray, List.set_cons_zero, List.set_cons_succ, List.getElem_toArray, List.getElem_cons_succ, List.getElem_cons_zero]
                refine wpAnyH_take (i := 19) (v := undef) rfl (by kernel_rfl) (by kernel_rfl) (by kernel_rfl) (fun _ _ _ h => h) (Or.inr ⟨by rfl, rfl⟩) (by assumption) ?_
                try simp only [Act.put, List.setIfInBounds_toArray, List.set_cons_zero, List.set_cons_succ, List.getElem_toArray, List.getElem_cons_succ, List.getElem_cons_zero]
                refine wpAnyH_take (i := 20) (v := ?_) rfl (by kernel_rfl) (by kernel_rfl) (by kernel_rfl) (fun _ _ _ h => h) (Or.inl ⟨by rfl, ?_⟩) (by assumption) ?_
                rotate_left
                · intro w hSw; (try dsimp only at hSw); (try simp only [List.getElem_toArray, List.getElem_cons_succ, List.getElem_cons_zero]); go_simp; try with_reducible rfl
                try simp only [Act.put, List.setIfInBounds_toArray, List.set_cons_zero, List.set_cons_succ, List.getElem_toArray, List.getElem_cons_succ, List.getElem_cons_zero]
                refine wpAnyH_take (i := 21) (v := ?_) rfl (by kernel_rfl) (by kernel_rfl) (by kernel_rfl) (fun _ _ _ h => h) (Or.inl ⟨by rfl, ?_⟩) (by assumption) ?_
                rotate_left
                · intro w hSw; (try dsimp only at hSw); (try simp only [List.getElem_toArray, List.getElem_cons_succ, List.getElem_cons_zero]); go_simp; try with_reducible rfl
                try simp only [Act.put, List.setIfInBounds_toArray, List.set_cons_zero, List.set_cons_succ, List.getElem_toArray, List.getElem_cons_succ, List.getElem_cons_zero]
                refine wpAnyH_take (i := 22) (v := ?_) rfl (by kernel_rfl) (by kernel_rfl) (by kernel_rfl) (fun _ _ _ h => h) (Or.inl ⟨by rfl, ?_⟩) (by assumption) ?_
                rotate_left
                · intro w hSw; (try dsimp only at hSw); (try simp only [List.getElem_toArray, List.getElem_cons_succ, List.getElem_cons_zero]); go_simp; try with_reducible rfl
                try simp only [Act.put, List.setIfInBounds_toArray, List.set_cons_zero, List.set_cons_succ, List.getElem_toArray, List.getElem_cons_succ, List.getElem_cons_zero]
                refine wpAnyH_done (by kernel_rfl) ?_ _
                have hx := hid (hfin.out wq (hS2.out wq (by assumption)))
                clear hpq hst hS hS2
                go_wp2
                go_ret
                exact ⟨rfl, hx.out⟩
              · have hN40d : decide (k0 + 40 < N + 1) = false := by simpa using hN40
                have hcb : cbase A.1 id = N := Hup1.out (by have := Hjj.out; omega)
                rw [hcb] at hup
                have hNN : (N == N) = true := by simp
                have hNm : N + 1 - 1 = N := by omega
                have hNw : IntKind.i64.wrap (N + 1 - 1) = N := by rw [IntWalk.i64_in _ (by omega)]; omega
                have hNw2 : IntKind.i64.wrap N = N := IntWalk.i64_in _ (by omega)
                clear hcb
                refine wp_region_held_drew (S := (fun W => W.cell? ⟨ny, 0, none⟩ = some y0 ∧ W.cell? ⟨ny, 1, none⟩ = some y1 ∧ W.cell? ⟨nx, 0, none⟩ = some z0 ∧ W.cell? ⟨nx, 1, none⟩ = some z1 ∧ W.cell? ⟨nn, 1, none⟩ = some (.int .i64 (N + 1)) ∧ Pure wy W)) (by kernel_rfl) ?_ (fun hHeld => ?_)
                · first | assumption | with_reducible exact hst.out | with_reducible exact hS.out _ (Pure.then_ (hS2.out _ (by assumption)) (by assumption))
                refine wpAnyH_take (i := 0) (v := ?_) rfl (by kernel_rfl) (by kernel_rfl) (by kernel_rfl) (fun _ _ _ h => h) (Or.inl ⟨by rfl, ?_⟩) (by assumption) ?_
                rotate_left
                · intro w hSw; (try dsimp only at hSw); (try simp only [List.getElem_toArray, List.getElem_cons_zero]); go_simp; try with_reducible rfl
                try simp only [Act.put, List.setIfInBounds_toArray, List.set_cons_zero, List.set_cons_succ, List.getElem_toArray, List.getElem_cons_zero]
                refine wpAnyH_take (i := 1) (v := ?_) rfl (by kernel_rfl) (by kernel_rfl) (by kernel_rfl) (fun _ _ _ h => h) (Or.inl ⟨by rfl, ?_⟩) (by assumption) ?_
                rotate_left
                · intro w hSw; (try dsimp only at hSw); (try simp only [List.getElem_toArray, List.getElem_cons_succ, List.getElem_cons_zero]); go_simp; try with_reducible rfl
                try simp only [Act.put, List.setIfInBounds_toArray, List.set_cons_zero, List.set_cons_succ, List.getElem_toArray, List.getElem_cons_succ, List.getElem_cons_zero]
                refine wpAnyH_take (i := 2) (v := ?_) rfl (by kernel_rfl) (by kernel_rfl) (by kernel_rfl) (fun _ _ _ h => h) (Or.inl ⟨by rfl, ?_⟩) (by assumption) ?_
                rotate_left
                · intro w hSw; (try dsimp only at hSw); (try simp only [List.getElem_toArray, List.getElem_cons_succ, List.getElem_cons_zero]); go_simp; try with_reducible rfl
                try simp only [Act.put, List.setIfInBounds_toArray, List.set_cons_zero, List.set_cons_succ, List.getElem_toArray, List.getElem_cons_succ, List.getElem_cons_zero]
                refine wpAnyH_take (i := 3) (v := ?_) rfl (by kernel_rfl) (by kernel_rfl) (by kernel_rfl) (fun _ _ _ h => h) (Or.inl ⟨by rfl, ?_⟩) (by assumption) ?_
                rotate_left
                · intro w hSw; (try dsimp only at hSw); (try simp only [List.getElem_toArray, List.getElem_cons_succ, List.getElem_cons_zero]); go_simp; try with_reducible rfl
                try simp only [Act.put, List.setIfInBounds_toArray, List.set_cons_zero, List.set_cons_succ, List.getElem_toArray, List.getElem_cons_succ, List.getElem_cons_zero]
                refine wpAnyH_ready (rs := [4]) (by kernel_rfl) (by simp) ?_
                refine AllReadyH.cons rfl (fun K hK => ?_) AllReadyH.nil
                (try simp only [List.getElem_toArray, List.getElem_cons_succ, List.getElem_cons_zero])
                go_simp
                go_at_call 22; (with_reducible refine (hcv.out _ (hS2.out _ (by assumption))).mono ?_); rintro e wq ⟨rfl, hpq⟩; go_wp2_with fail
                refine hK.out _ _ ?_ (fun hHeld => ?_)
                · first | assumption | with_reducible exact hst.out | with_reducible exact hS.out _ (Pure.then_ (hS2.out _ (by assumption)) (by assumption))
                clear hK K
                try simp only [Act.put, List.setIfInBounds_toArray, List.set_cons_zero, List.set_cons_succ, List.getElem_toArray, List.getElem_cons_succ, List.getElem_cons_zero]
                refine wpAnyH_take (i := 5) (v := ?_) rfl (by kernel_rfl) (by kernel_rfl) (by kernel_rfl) (fun _ _ _ h => h) (Or.inl ⟨by rfl, ?_⟩) (by assumption) ?_
                rotate_left
                · intro w hSw; (try dsimp only at hSw); (try simp only [List.getElem_toArray, List.getElem_cons_succ, List.getElem_cons_zero]); go_simp; try with_reducible rfl
                try simp only [Act.put, List.setIfInBounds_toArray, List.set_cons_zero, List.set_cons_succ, List.getElem_toArray, List.getElem_cons_succ, List.getElem_cons_zero]
                refine wpAnyH_take (i := 6) (v := ?_) rfl (by kernel_rfl) (by kernel_rfl) (by kernel_rfl) (fun _ _ _ h => h) (Or.inl ⟨by rfl, ?_⟩) (by assumption) ?_
                rotate_left
                · intro w hSw; (try dsimp only at hSw); (try simp only [List.getElem_toArray, List.getElem_cons_succ, List.getElem_cons_zero]); go_simp; try with_reducible rfl
                try simp only [Act.put, List.setIfInBounds_toArray, List.set_cons_zero, List.set_cons_succ, List.getElem_toArray, List.getElem_cons_succ, List.getElem_cons_zero]
                refine wpAnyH_take (i := 7) (v := ?_) rfl (by kernel_rfl) (by kernel_rfl) (by kernel_rfl) (fun _ _ _ h => h) (Or.inl ⟨by rfl, ?_⟩) (by assumption) ?_
                rotate_left
                · intro w hSw; (try dsimp only at hSw); (try simp only [List.getElem_toArray, List.getElem_cons_succ, List.getElem_cons_zero]); go_simp; try with_reducible rfl
                try simp only [Act.put, List.setIfInBounds_toArray, List.set_cons_zero, List.set_cons_succ, List.getElem_toArray, List.getElem_cons_succ, List.getElem_cons_zero]
                refine wpAnyH_take (i := 8) (v := ?_) rfl (by kernel_rfl) (by kernel_rfl) (by kernel_rfl) (fun _ _ _ h => h) (Or.inl ⟨by rfl, ?_⟩) (by assumption) ?_
                rotate_left
                · intro w hSw; (try dsimp only at hSw); (try simp only [List.getElem_toArray, List.getElem_cons_succ, List.getElem_cons_zero]); go_simp; try with_reducible rfl
                try simp only [Act.put, List.setIfInBounds_toArray, List.set_cons_zero, List.set_cons_succ, List.getElem_toArray, List.getElem_cons_succ, List.getElem_cons_zero]
                refine wpAnyH_take (i := 9) (v := ?_) rfl (by kernel_rfl) (by kernel_rfl) (by kernel_rfl) (fun _ _ _ h => h) (Or.inl ⟨by rfl, ?_⟩) (by assumption) ?_
                rotate_left
                · intro w hSw; (try dsimp only at hSw); (try simp only [List.getElem_toArray, List.getElem_cons_succ, List.getElem_cons_zero]); go_simp; try with_reducible rfl
                try simp only [Act.put, List.setIfInBounds_toArray, List.set_cons_zero, List.set_cons_succ, List.getElem_toArray, List.getElem_cons_succ, List.getElem_cons_zero]
                refine wpAnyH_take (i := 10) (v := ?_) rfl (by kernel_rfl) (by kernel_rfl) (by kernel_rfl) (fun _ _ _ h => h) (Or.inl ⟨by rfl, ?_⟩) (by assumption) ?_
                rotate_left
                · intro w hSw; (try dsimp only at hSw); (try simp only [List.getElem_toArray, List.getElem_cons_succ, List.getElem_cons_zero]); go_simp; try with_reducible rfl
                try simp only [Act.put, List.setIfInBounds_toArray, List.set_cons_zero, List.set_cons_succ, List.getElem_toArray, List.getElem_cons_succ, List.getElem_cons_zero]
                refine wpAnyH_take (i := 11) (v := ?_) rfl (by kernel_rfl) (by kernel_rfl) (by kernel_rfl) (fun _ _ _ h => h) (Or.inl ⟨by rfl, ?_⟩) (by assumption) ?_
                rotate_left
                · intro w hSw; (try dsimp only at hSw); (try simp only [List.getElem_toArray, List.getElem_cons_succ, List.getElem_cons_zero]); go_simp; try with_reducible rfl
                try simp only [Act.put, List.setIfInBounds_toArray, List.set_cons_zero, List.set_cons_succ, List.getElem_toArray, List.getElem_cons_succ, List.getElem_cons_zero]
                refine wpAnyH_take (i := 12) (v := ?_) rfl (by kernel_rfl) (by kernel_rfl) (by kernel_rfl) (fun _ _ _ h => h) (Or.inl ⟨by rfl, ?_⟩) (by assumption) ?_
                rotate_left
                · intro w hSw; (try dsimp only at hSw); (try simp only [List.getElem_toArray, List.getElem_cons_succ, List.getElem_cons_zero]); go_simp; try with_reducible rfl
                try simp only [Act.put, List.setIfInBounds_toArray, List.set_cons_zero, List.set_cons_succ, List.getElem_toArray, List.getElem_cons_succ, List.getElem_cons_zero]
                refine wpAnyH_take (i := 13) (v := ?_) rfl (by kernel_rfl) (by kernel_rfl) (by kernel_rfl) (fun _ _ _ h => h) (Or.inl ⟨by rfl, ?_⟩) (by assumption) ?_
                rotate_left
                · intro w hSw; (try dsimp only at hSw); (try simp only [List.getElem_toArray, List.getElem_cons_succ, List.getElem_cons_zero]); go_simp; try with_reducible rfl
                try simp only [Act.put, List.setIfInBounds_toArray, List.set_cons_zero, List.set_cons_succ, List.getElem_toArray, List.getElem_cons_succ, List.getElem_cons_zero]
                refine wpAnyH_take (i := 14) (v := ?_) rfl (by kernel_rfl) (by kernel_rfl) (by kernel_rfl) (fun _ _ _ h => h) (Or.inl ⟨by rfl, ?_⟩) (by assumption) ?_
                rotate_left
                · intro w hSw; (try dsimp only at hSw); (try simp only [List.getElem_toArray, List.getElem_cons_succ, List.getElem_cons_zero]); go_simp; try with_reducible rfl
                try simp only [Act.put, List.setIfInBounds_toArray, List.set_cons_zero, List.set_cons_succ, List.getElem_toArray, List.getElem_cons_succ, List.getElem_cons_zero]
                refine wpAnyH_take (i := 16) (v := ?_) rfl (by kernel_rfl) (by kernel_rfl) (by kernel_rfl) (fun _ _ _ h => h) (Or.inl ⟨by rfl, ?_⟩) (by assumption) ?_
                rotate_left
                · intro w hSw; (try dsimp only at hSw); (try simp only [List.getElem_toArray, List.getElem_cons_succ, List.getElem_cons_zero]); go_simp; try with_reducible rfl
                try simp only [Act.put, List.setIfInBounds_toArray, List.set_cons_zero, List.set_cons_succ, List.getElem_toArray, List.getElem_cons_succ, List.getElem_cons_zero]
                refine wpAnyH_take (i := 17) (v := ?_) rfl (by kernel_rfl) (by kernel_rfl) (by kernel_rfl) (fun _ _ _ h => h) (Or.inl ⟨by rfl, ?_⟩) (by assumption) ?_
                rotate_left
                · intro w hSw; (try dsimp only at hSw); (try simp only [List.getElem_toArray, List.getElem_cons_succ, List.getElem_cons_zero]); go_simp; try with_reducible rfl
                try simp only [Act.put, List.setIfInBounds_toArray, List.set_cons_zero, List.set_cons_succ, List.getElem_toArray, List.getElem_cons_succ, List.getElem_cons_zero]
                refine wpAnyH_take (i := 18) (v := ?_) rfl (by kernel_rfl) (by kernel_rfl) (by kernel_rfl) (fun _ _ _ h => h) (Or.inl ⟨by rfl, ?_⟩) (by assumption) ?_
                rotate_left
                · intro w hSw; (try dsimp only at hSw); (try simp only [List.getElem_toArray, List.getElem_cons_succ, List.getElem_cons_zero]); go_simp; try with_reducible rfl
                try simp only [Act.put, List.setIfInBounds_toArray, List.set_cons_zero, List.set_cons_succ, List.getElem_toArray, List.getElem_cons_succ, List.getElem_cons_zero]
                refine wpAnyH_ready (rs := [15]) (by kernel_rfl) (by simp) ?_
                refine AllReadyH.cons rfl (fun K hK => ?_) AllReadyH.nil
                (try simp only [List.getElem_toArray, List.getElem_cons_succ, List.getElem_cons_zero])
                go_simp
                go_at_call 20; (with_reducible refine (hup.out _ (hS2.out _ (by assumption))).mono ?_); rintro e wl ⟨rfl, hpl⟩; go_wp2_with fail
                refine hK.out _ _ ?_ (fun hHeld => ?_)
                · first | assumption | with_reducible exact hst.out | with_reducible exact hS.out _ (Pure.then_ (hS2.out _ (by assumption)) (by assumption))
                clear hK K
                try simp only [Act.put, List.setIfInBounds_toArray, List.set_cons_zero, List.set_cons_succ, List.getElem_toArray, List.getElem_cons_succ, List.getElem_cons_zero]
                refine wpAnyH_take (i := 19) (v := ?_) rfl (by kernel_rfl) (by kernel_rfl) (by kernel_rfl) (fun _ _ _ h => h) (Or.inl ⟨by rfl, ?_⟩) (by assumption) ?_
                rotate_left
                · intro w hSw; (try dsimp only at hSw); (try simp only [List.getElem_toArray, List.getElem_cons_succ, List.getElem_cons_zero]); go_simp; try with_reducible rfl
                try simp only [Act.put, List.setIfInBounds_toArray, List.set_cons_zero, List.set_cons_succ, List.getElem_toArray, List.getElem_cons_succ, List.getElem_cons_zero]
                refine wpAnyH_take (i := 20) (v := ?_) rfl (by kernel_rfl) (by kernel_rfl) (by kernel_rfl) (fun _ _ _ h => h) (Or.inl ⟨by rfl, ?_⟩) (by assumption) ?_
                rotate_left
                · intro w hSw; (try dsimp only at hSw); (try simp only [List.getElem_toArray, List.getElem_cons_succ, List.getElem_cons_zero]); go_simp; try with_reducible rfl
                try simp only [Act.put, List.setIfInBounds_toArray, List.set_cons_zero, List.set_cons_succ, List.getElem_toArray, List.getElem_cons_succ, List.getElem_cons_zero]
                refine wpAnyH_take (i := 21) (v := ?_) rfl (by kernel_rfl) (by kernel_rfl) (by kernel_rfl) (fun _ _ _ h => h) (Or.inl ⟨by rfl, ?_⟩) (by assumption) ?_
                rotate_left
                · intro w hSw; (try dsimp only at hSw); (try simp only [List.getElem_toArray, List.getElem_cons_succ, List.getElem_cons_zero]); go_simp; try with_reducible rfl
                try simp only [Act.put, List.setIfInBounds_toArray, List.set_cons_zero, List.set_cons_succ, List.getElem_toArray, List.getElem_cons_succ, List.getElem_cons_zero]
                refine wpAnyH_take (i := 22) (v := ?_) rfl (by kernel_rfl) (by kernel_rfl) (by kernel_rfl) (fun _ _ _ h => h) (Or.inl ⟨by rfl, ?_⟩) (by assumption) ?_
                rotate_left
                · intro w hSw; (try dsimp only at hSw); (try simp only [List.getElem_toArray, List.getElem_cons_succ, List.getElem_cons_zero]); go_simp; try with_reducible rfl
                try simp only [Act.put, List.setIfInBounds_toArray, List.set_cons_zero, List.set_cons_succ, List.getElem_toArray, List.getElem_cons_succ, List.getElem_cons_zero]
                refine wpAnyH_done (by kernel_rfl) ?_ _
                have hx := hid (hfin.out wl (hS2.out wl (by assumption)))
                clear hpl hst hS hS2
                go_wp2
                go_ret
                exact ⟨rfl, hx.out⟩
end Go.Proofs.Ytimcjkimehhgcaa
