/- bag: find, Get. -/
import Derived.Test.YtbcbmnifbflmaaaGreatMSa
import Derived.Test.YtbcbmnifbflmaaaGreatMJr
import Derived.Test.YtbcbmnifbflmaaaGreatPA
namespace Go.Proofs.YtbcbmnifbflmaaaGreat
open Go.RowKit Go.Maps Go.Shelf Go.Sort

/-- Where a message of that name is, or would be; and is it there? -/
def fk (l : List Msg) (d : Dot) : Nat := l.findIdx fun m => !dlt m.1 d
def fb (l : List Msg) (d : Dot) : Bool := decide (fk l d < l.length) && decide ((l.getD (fk l d) m0).1 = d)
theorem fb_get {l : List Msg} (h : MR l) (d : Dot) : lget l d = if fb l d then some (l.getD (fk l d) m0) else none := by
  by_cases hk : fk l d < l.length
  · have hp : dlt (l.getD (fk l d) m0).1 d = false := by
      have h2 : (!dlt (l[fk l d]'hk).1 d) = true := List.findIdx_getElem (p := fun m : Msg => !dlt m.1 d) (xs := l) (w := hk)
      have e : l.getD (fk l d) m0 = l[fk l d]'hk := by simp [List.getD, hk]
      rw [e]; simpa using h2
    have hn : ∀ m ∈ l.take (fk l d), m.1 ≠ d := fun m hm e => by
      rw [List.mem_take_iff_getElem] at hm
      obtain ⟨j, hj, rfl⟩ := hm
      have h3 := List.not_of_lt_findIdx (p := fun m : Msg => !dlt m.1 d) (xs := l) (i := j) (by unfold fk at hj; omega)
      have h4 : dlt (l[j]'(by omega)).1 d = true := by simpa using h3
      rw [e] at h4
      exact DL.irrefl d (dlt_iff.1 h4)
    by_cases he : (l.getD (fk l d) m0).1 = d
    · have hb : fb l d = true := by unfold fb; rw [decide_eq_true hk, decide_eq_true he]; rfl
      rw [hb, if_pos rfl]
      exact lget_hit hk hn he
    · have hb : fb l d = false := by unfold fb; rw [decide_eq_false he, Bool.and_false]
      rw [hb, if_neg (by simp), lget_none]
      intro m hm e
      obtain ⟨i, hi, rfl⟩ := List.getElem_of_mem hm
      have e0 : l.getD (fk l d) m0 = l[fk l d]'hk := by simp [List.getD, hk]
      rw [e0] at he hp
      rcases Nat.lt_trichotomy i (fk l d) with h1 | h1 | h1
      · exact hn _ (List.mem_take_iff_getElem.2 ⟨i, by omega, rfl⟩) e
      · exact he (by subst h1; exact e)
      · have h2 := List.pairwise_iff_getElem.1 h (fk l d) i hk hi h1
        rw [e] at h2
        rw [dlt_false] at hp
        exact hp h2
  · have hb : fb l d = false := by unfold fb; rw [decide_eq_false hk]; rfl
    rw [hb, if_neg (by simp), lget_none]
    intro m hm e
    have : fk l d < l.length := by
      unfold fk
      rw [List.findIdx_lt_length]
      refine ⟨m, hm, ?_⟩
      have : dlt m.1 d = false := by rw [e, dlt_false]; exact DL.irrefl d
      simp [this]
    exact hk this
theorem midx_fk {l : List Msg} {d : Dot} : (midx l (fun m => !dlt m.1 d) = -1 ∧ fk l d = l.length) ∨ (midx l (fun m => !dlt m.1 d) = (fk l d : Nat) ∧ fk l d < l.length) := by
  unfold midx
  by_cases h : l.findIdx (fun m => !dlt m.1 d) < l.length
  · rw [if_pos h]; exact .inr ⟨rfl, h⟩
  · rw [if_neg h]
    have := List.findIdx_le_length (p := fun m : Msg => !dlt m.1 d) (xs := l)
    exact .inl ⟨rfl, by unfold fk; omega⟩

set_option maxHeartbeats 400000 in
theorem find1_any (m : Msg) (d : Dot) (bn : Nat) (w : World) (h0 : w.cell? ⟨bn, 0, none⟩ = some (.int .i64 d.1)) (h1 : w.cell? ⟨bn, 1, none⟩ = some (.int .i64 d.2)) :
    Calls Tryz.prog 93 #[mv m, .pointer (some ⟨bn, 0, none⟩)] w fun e w' => e = .returned (.bool (!dlt m.1 d)) ∧ Pure w w' := by
  obtain ⟨⟨x, y⟩, q, b, c⟩ := m
  obtain ⟨dx, dy⟩ := d
  dsimp only at h0 h1
  obtain ⟨wz, hwz⟩ : ∃ wz, wz = w.alloc (.cells #[.int .i64 x, .int .i64 y, .string (bs q), .string (bs b), .int .i64 c] 41) := ⟨_, rfl⟩
  have Hp := hid (show Pure w wz from by rw [hwz]; exact (Below.refl _ _).alloc (Nat.le_refl _) _)
  have Hl := hid (less_any (x, y) (dx, dy) wz)
  have f0 := pat Hp.out h0
  have f1 := pat Hp.out h1
  unfold dv at Hl
  dsimp only at Hl
  generalize dlt (x, y) (dx, dy) = D at *
  rw [hwz] at f0 f1
  unfold mv
  dsimp only
  clear h0 h1
  go_enter Tryz.func93, Tryz.ntmps93
  go_wp2_with fail
  rw [← hwz]
  clear hwz f0 f1
  refine Hl.out.mono ?_
  rintro e w1 ⟨rfl, hp1⟩
  have Hp1 := hid (Hp.out.then_ hp1)
  clear hp1
  go_wp2
  go_ret
  exact ⟨rfl, Hp1.out⟩

set_option maxRecDepth 8000 in
set_option maxHeartbeats 2000000 in
theorem sfind_any (v : Value) (l : List Msg) (d : Dot) (w : World) (hr : Msgs w v l) :
    Calls Tryz.prog 49 #[v, dv d] w fun e w' => e = .returned (.tuple #[.int .i64 (fk l d : Nat), .bool (fb l d)]) ∧ Pure w w' := by
  obtain ⟨a, cap, rfl⟩ := hr.shape
  have hll : l.length ≤ maxLen := Row.len_le hr
  unfold maxLen at hll
  obtain ⟨wz, hwz⟩ : ∃ wz, wz = w.alloc (.cells #[.int .i64 d.1, .int .i64 d.2] 28) := ⟨_, rfl⟩
  have Hp := hid (show Pure w wz from by rw [hwz]; exact (Below.refl _ _).alloc (Nat.le_refl _) _)
  have hb : Hid (wz.heap[w.heap.size]? = some (.cells #[.int .i64 d.1, .int .i64 d.2] 28 (0, 0))) := by show _ = _; rw [hwz]; exact block_alloc_new _ _
  have HC : Hid (∀ W, Pure wz W → (W.cell? ⟨w.heap.size, 0, none⟩ = some (.int .i64 d.1) ∧ W.cell? ⟨w.heap.size, 1, none⟩ = some (.int .i64 d.2))) := fun W hW => by
    have e0 := (hW.block _ (lt_of_block hb.out)).trans hb.out
    exact ⟨cell_of_block e0 0, cell_of_block e0 1⟩
  have Hi := hid (indexm_any _ l wz (show Msgs wz _ l from Row.pure hr Hp.out) 93 #[.pointer (some ⟨w.heap.size, 0, none⟩)] (fun m => !dlt m.1 d) (enters_of Tryz.func93 (by kernel_rfl) rfl) (fun W m hW => find1_any m d w.heap.size W (HC.out W hW).1 (HC.out W hW).2))
  unfold ImP at Hi
  have HL := hid (fun W (hW : Pure wz W) => (show Msgs W _ l from Row.pure hr (Hp.out.then_ hW)))
  have hfb := hid (show fb l d = (decide (fk l d < l.length) && decide ((l.getD (fk l d) m0).1 = d)) from rfl)
  have hmx := @midx_fk l d
  generalize midx l (fun m => !dlt m.1 d) = I at *
  generalize fk l d = K at *
  generalize fb l d = B at *
  obtain ⟨dx, dy⟩ := d
  unfold dv
  dsimp only at *
  clear hr
  rcases hmx with ⟨rfl, rfl⟩ | ⟨rfl, hk⟩
  · have hB := hfb.out
    rw [decide_eq_false (Nat.lt_irrefl _)] at hB
    simp only [Bool.false_and] at hB
    subst hB
    go_enter Tryz.func49, Tryz.ntmps49
    go_wp2_with fail
    rw [← hwz]
    clear hwz
    refine Hi.out.mono ?_
    rintro e w1 ⟨rfl, hp1⟩
    have Hp1 := hid (Hp.out.then_ hp1)
    clear hp1
    go_wp2
    exact bodyPost_ret (v := .tuple #[.int .i64 l.length, .bool false]) (by simp [results, Tryz.results49, go_sem]) rfl ⟨rfl, Hp1.out⟩
  · have hB := hfb.out
    rw [decide_eq_true hk, Bool.true_and] at hB
    have hkI : (K : Int) < (l.length : Int) := by omega
    have hk0 : ¬ (K : Int) < 0 := by omega
    have heq := dot_eqIn
    go_enter Tryz.func49, Tryz.ntmps49
    go_wp2_with fail
    rw [← hwz]
    clear hwz
    refine Hi.out.mono ?_
    rintro e w1 ⟨rfl, hp1⟩
    have Hp1 := hid (Hp.out.then_ hp1)
    obtain ⟨f0, f1⟩ := HC.out w1 hp1
    obtain ⟨b, off, e, _, z0, z1, -, -, -⟩ := Msgs.get (HL.out w1 hp1) hk
    subst e
    generalize l.getD K m0 = z at *
    obtain ⟨⟨zx, zy⟩, zq, zb, zc⟩ := z
    dsimp only at z0 z1 hB
    have hBB : B = (decide (zx = dx) && decide (zy = dy)) := by
      rw [hB, Bool.eq_iff_iff]
      simp
    have HBB := hid hBB
    clear hp1 hB hBB
    go_wp2_with fail
    go_quiet (fail)
    go_wp2
    exact bodyPost_ret (v := .tuple #[.int .i64 K, .bool (decide (zx = dx) && decide (zy = dy))]) (by simp [results, Tryz.results49, go_sem]) rfl ⟨by rw [HBB.out], Hp1.out.then_ (pure_drewN _ _)⟩

set_option maxRecDepth 8000 in
set_option maxHeartbeats 4000000 in
theorem sget_any (v0 v1 v2 : Value) (g : Bag) (d : Dot) (w : World) (hr : BR3 v0 v1 v2 g w) (hg : MR g.1) :
    Calls Tryz.prog 14 #[.agg #[v0, v1, v2], dv d] w fun e w' => e = .returned (getR (lget g.1 d)) ∧ Pure w w' := by
  obtain ⟨L, B, C⟩ := g
  obtain ⟨x, y⟩ := d
  obtain ⟨h0, -, -⟩ := hr
  dsimp only at h0 hg ⊢
  obtain ⟨a0, c0, rfl⟩ := h0.shape
  have hll : L.length ≤ maxLen := Row.len_le h0
  unfold maxLen at hll
  obtain ⟨wz, hwz⟩ : ∃ wz, wz = ((w.alloc (.cells #[.slice a0 L.length c0, v1, v2] 33)).alloc (.cells #[.int .i64 x, .int .i64 y] 28)).alloc (.cells #[.int .i64 0, .int .i64 0, .string ⟨#[]⟩, .string ⟨#[]⟩, .int .i64 0] 41) := ⟨_, rfl⟩
  have Hpz := hid (show Pure w wz from by rw [hwz]; exact (((Below.refl _ _).alloc (Nat.le_refl _) _).alloc (by simp) _).alloc (by simp; omega) _)
  have n1 := block_alloc_new (w.alloc (.cells #[.slice a0 L.length c0, v1, v2] 33)) (.cells #[.int .i64 x, .int .i64 y] 28)
  have n2 := block_alloc_new ((w.alloc (.cells #[.slice a0 L.length c0, v1, v2] 33)).alloc (.cells #[.int .i64 x, .int .i64 y] 28)) (.cells #[.int .i64 0, .int .i64 0, .string ⟨#[]⟩, .string ⟨#[]⟩, .int .i64 0] 41)
  simp only [World.size_alloc] at n1 n2
  have hbk : Hid (wz.heap[w.heap.size]? = some (.cells #[.slice a0 L.length c0, v1, v2] 33 (0, 0)) ∧ wz.heap[w.heap.size + 1]? = some (.cells #[.int .i64 x, .int .i64 y] 28 (0, 0)) ∧ wz.heap[w.heap.size + 1 + 1]? = some (.cells #[.int .i64 0, .int .i64 0, .string ⟨#[]⟩, .string ⟨#[]⟩, .int .i64 0] 41 (0, 0))) := by
    show _ ∧ _ ∧ _
    rw [hwz]
    exact ⟨block_alloc_old (block_alloc_old (block_alloc_new _ _) _) _, block_alloc_old n1 _, n2⟩
  clear n1 n2
  have Hfin : Hid (∀ (W : World) (m : Msg), Pure wz W → ((((((W.setCell ⟨w.heap.size + 1 + 1, 0, none⟩ (.int .i64 m.1.1)).setCell ⟨w.heap.size + 1 + 1, 1, none⟩ (.int .i64 m.1.2)).setCell ⟨w.heap.size + 1 + 1, 2, none⟩ (.string (bs m.2.1))).setCell ⟨w.heap.size + 1 + 1, 3, none⟩ (.string (bs m.2.2.1))).setCell ⟨w.heap.size + 1 + 1, 4, none⟩ (.int .i64 m.2.2.2)).heap[w.heap.size + 1 + 1]? = some (.cells #[.int .i64 m.1.1, .int .i64 m.1.2, .string (bs m.2.1), .string (bs m.2.2.1), .int .i64 m.2.2.2] 41 (0, 0)) ∧ Pure w (((((W.setCell ⟨w.heap.size + 1 + 1, 0, none⟩ (.int .i64 m.1.1)).setCell ⟨w.heap.size + 1 + 1, 1, none⟩ (.int .i64 m.1.2)).setCell ⟨w.heap.size + 1 + 1, 2, none⟩ (.string (bs m.2.1))).setCell ⟨w.heap.size + 1 + 1, 3, none⟩ (.string (bs m.2.2.1))).setCell ⟨w.heap.size + 1 + 1, 4, none⟩ (.int .i64 m.2.2.2)))) := fun W m hW => by
    have e2 := (hW.block _ (lt_of_block hbk.out.2.2)).trans hbk.out.2.2
    refine ⟨set5 e2 _ _ _ _ _, ?_⟩
    have hk := kept5 W (w.heap.size + 1 + 1) (.int .i64 m.1.1) (.int .i64 m.1.2) (.string (bs m.2.1)) (.string (bs m.2.2.1)) (.int .i64 m.2.2.2)
    exact ((Pure.kept (S := fun k => w.heap.size ≤ k) (Hpz.out.then_ hW)).trans (hk.mono (fun k _ e => (show w.heap.size ≤ k by omega)))).below (Nat.le_refl _) (fun k hk e => by omega)
  have Hf := hid (sfind_any _ L (x, y) wz (show Msgs wz _ L from Row.pure h0 Hpz.out))
  have HF : Hid (∀ W, Pure wz W → (W.cell? ⟨w.heap.size, 0, none⟩ = some (.slice a0 L.length c0) ∧ Msgs W (.slice a0 L.length c0) L ∧ W.heap[w.heap.size + 1 + 1]? = some (.cells #[.int .i64 0, .int .i64 0, .string ⟨#[]⟩, .string ⟨#[]⟩, .int .i64 0] 41 (0, 0)))) := fun W hW => by
    have e0 := (hW.block _ (lt_of_block hbk.out.1)).trans hbk.out.1
    have e2 := (hW.block _ (lt_of_block hbk.out.2.2)).trans hbk.out.2.2
    exact ⟨cell_of_block e0 0, Row.pure h0 (Hpz.out.then_ hW), e2⟩
  have hgt := hid (fb_get hg (x, y))
  have hfl := hid (show fb L (x, y) = true → fk L (x, y) < L.length from fun e => by unfold fb at e; rw [Bool.and_eq_true, decide_eq_true_eq] at e; exact e.1)
  obtain ⟨f0, f1, f2⟩ : wz.cell? ⟨w.heap.size, 0, none⟩ = some (.slice a0 L.length c0) ∧ wz.cell? ⟨w.heap.size + 1, 0, none⟩ = some (.int .i64 x) ∧ wz.cell? ⟨w.heap.size + 1, 1, none⟩ = some (.int .i64 y) := ⟨cell_of_block hbk.out.1 0, cell_of_block hbk.out.2.1 0, cell_of_block hbk.out.2.1 1⟩
  generalize fb L (x, y) = D at *
  generalize fk L (x, y) = K at *
  rw [hwz] at f0 f1 f2
  unfold dv at Hf ⊢
  dsimp only at Hf ⊢
  clear h0 hg
  go_enter Tryz.func14, Tryz.ntmps14
  go_wp2_with fail
  rw [← hwz]
  clear hwz f0 f1 f2
  refine Hf.out.mono ?_
  rintro e w1 ⟨rfl, hp1⟩
  obtain ⟨g0, hL, hR⟩ := HF.out w1 hp1
  have hR0 := cell_of_block hR 0
  have hR1 := cell_of_block hR 1
  have hR2 := cell_of_block hR 2
  have hR3 := cell_of_block hR 3
  have hR4 := cell_of_block hR 4
  have hF := fun i => free_of_block hR i
  simp only [List.getElem?_toArray, List.getElem?_cons_succ, List.getElem?_cons_zero] at hR0 hR1 hR2 hR3 hR4
  cases D with
  | true =>
    have hK := hfl.out rfl
    have hKI : (K : Int) < (L.length : Int) := by omega
    have Hg := hid (show lget L (x, y) = some (L.getD K m0) from by rw [hgt.out]; rfl)
    obtain ⟨b, off, e, hb, z0, z1, z2, z3, z4⟩ := Msgs.get hL hK
    subst e
    generalize L.getD K m0 = z at *
    obtain ⟨⟨zx, zy⟩, zq, zb, zc⟩ := z
    dsimp only at z0 z1 z2 z3 z4
    have Hw := hid (Hfin.out w1 ((zx, zy), zq, zb, zc) hp1)
    dsimp only at Hw
    have T0 := hid (cell_of_block Hw.out.1 0)
    have T1 := hid (cell_of_block Hw.out.1 1)
    have T2 := hid (cell_of_block Hw.out.1 2)
    have T3 := hid (cell_of_block Hw.out.1 3)
    have T4 := hid (cell_of_block Hw.out.1 4)
    clear hp1 hL hR hb
    go_wp2
    exact bodyPost_ret (v := .tuple #[.agg #[.int .i64 zx, .int .i64 zy, .string (bs zq), .string (bs zb), .int .i64 zc], .bool true]) (by simp [results, Tryz.results14, go_sem, T0.out, T1.out, T2.out, T3.out, T4.out]) rfl ⟨by rw [Hg.out]; rfl, Hw.out.2⟩
  | false =>
    have Hg := hid (show lget L (x, y) = none from by rw [hgt.out]; rfl)
    have Hw := hid (Hfin.out w1 m0 hp1)
    have T0 := hid (cell_of_block Hw.out.1 0)
    have T1 := hid (cell_of_block Hw.out.1 1)
    have T2 := hid (cell_of_block Hw.out.1 2)
    have T3 := hid (cell_of_block Hw.out.1 3)
    have T4 := hid (cell_of_block Hw.out.1 4)
    unfold m0 bs at Hw T0 T1 T2 T3 T4
    dsimp only at Hw T0 T1 T2 T3 T4
    clear hp1 hL hR
    go_wp2
    exact bodyPost_ret (v := .tuple #[.agg #[.int .i64 0, .int .i64 0, .string ⟨#[]⟩, .string ⟨#[]⟩, .int .i64 0], .bool false]) (by simp [results, Tryz.results14, go_sem, T0.out, T1.out, T2.out, T3.out, T4.out]) rfl ⟨by rw [Hg.out]; rfl, Hw.out.2⟩
end Go.Proofs.YtbcbmnifbflmaaaGreat
