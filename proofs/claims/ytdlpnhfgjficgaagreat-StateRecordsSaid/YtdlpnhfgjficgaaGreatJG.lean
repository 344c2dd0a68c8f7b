/- ref05's Get. -/
import Derived.Test.YtdlpnhfgjficgaaGreatMX7
namespace Go.Proofs.YtdlpnhfgjficgaaGreat
open Go.RowKit Go.Maps Go.Shelf Go.Sort

theorem set5 {w : World} {b : Nat} {x0 x1 x2 x3 x4 : Value} {t : TypeId} (h : w.heap[b]? = some (.cells #[x0, x1, x2, x3, x4] t (0, 0))) (v0 v1 v2 v3 v4 : Value) :
    (((((w.setCell ⟨b, 0, none⟩ v0).setCell ⟨b, 1, none⟩ v1).setCell ⟨b, 2, none⟩ v2).setCell ⟨b, 3, none⟩ v3).setCell ⟨b, 4, none⟩ v4).heap[b]? = some (.cells #[v0, v1, v2, v3, v4] t (0, 0)) := by
  have := block_setCell (block_setCell (block_setCell (block_setCell (block_setCell h 0 v0) 1 v1) 2 v2) 3 v3) 4 v4
  simpa using this
theorem kept5 (w : World) (b : Nat) (v0 v1 v2 v3 v4 : Value) : Kept (fun k => k = b) w (((((w.setCell ⟨b, 0, none⟩ v0).setCell ⟨b, 1, none⟩ v1).setCell ⟨b, 2, none⟩ v2).setCell ⟨b, 3, none⟩ v3).setCell ⟨b, 4, none⟩ v4) :=
  (((((Kept.refl (fun k => k = b) w).setCell (p := ⟨b, 0, none⟩) (fun _ => rfl) v0).setCell (p := ⟨b, 1, none⟩) (fun _ => rfl) v1).setCell (p := ⟨b, 2, none⟩) (fun _ => rfl) v2).setCell (p := ⟨b, 3, none⟩) (fun _ => rfl) v3).setCell (p := ⟨b, 4, none⟩) (fun _ => rfl) v4
/-- A message, or none, that was handed back. -/
def getR (o : Option Msg) : Value := .tuple #[mv (o.getD m0), .bool o.isSome]
theorem lget_hit {l : List Msg} {d : Dot} {k : Nat} (hk : k < l.length) (hn : ∀ m ∈ l.take k, m.1 ≠ d) (h : (l.getD k m0).1 = d) : lget l d = some (l.getD k m0) := by
  have e : l = l.take k ++ l.drop k := (List.take_append_drop k l).symm
  have e2 : l.drop k = l.getD k m0 :: l.drop (k + 1) := by
    rw [List.drop_eq_getElem_cons hk]; simp [List.getD, hk]
  conv => lhs; rw [e]
  rw [lget_append, lget_none.2 hn, e2, lget_cons, if_pos h]; rfl

set_option maxRecDepth 8000 in
set_option maxHeartbeats 4000000 in
theorem rget_any (v0 v1 v2 : Value) (g : Bag) (d : Dot) (w : World) (hr : BR3 v0 v1 v2 g w) :
    Calls Tryz.prog 17 #[.agg #[v0, v1, v2], dv d] w fun e w' => e = .returned (getR (lget g.1 d)) ∧ Pure w w' := by
  obtain ⟨L, B, C⟩ := g
  obtain ⟨x, y⟩ := d
  have heq := dot_eqIn
  obtain ⟨h0, -, -⟩ := hr
  dsimp only at h0 ⊢
  obtain ⟨a0, c0, rfl⟩ := h0.shape
  have hll : L.length ≤ maxLen := Row.len_le h0
  unfold maxLen at hll
  obtain ⟨wz, hwz⟩ : ∃ wz, wz = ((w.alloc (.cells #[.slice a0 L.length c0, v1, v2] 34)).alloc (.cells #[.int .i64 x, .int .i64 y] 28)).alloc (.cells #[.int .i64 0, .int .i64 0, .string ⟨#[]⟩, .string ⟨#[]⟩, .int .i64 0] 43) := ⟨_, rfl⟩
  have Hpz := hid (show Pure w wz from by rw [hwz]; exact (((Below.refl _ _).alloc (Nat.le_refl _) _).alloc (by simp) _).alloc (by simp; omega) _)
  have n1 := block_alloc_new (w.alloc (.cells #[.slice a0 L.length c0, v1, v2] 34)) (.cells #[.int .i64 x, .int .i64 y] 28)
  have n2 := block_alloc_new ((w.alloc (.cells #[.slice a0 L.length c0, v1, v2] 34)).alloc (.cells #[.int .i64 x, .int .i64 y] 28)) (.cells #[.int .i64 0, .int .i64 0, .string ⟨#[]⟩, .string ⟨#[]⟩, .int .i64 0] 43)
  simp only [World.size_alloc] at n1 n2
  have hbk : Hid (wz.heap[w.heap.size]? = some (.cells #[.slice a0 L.length c0, v1, v2] 34 (0, 0)) ∧ wz.heap[w.heap.size + 1]? = some (.cells #[.int .i64 x, .int .i64 y] 28 (0, 0)) ∧ wz.heap[w.heap.size + 1 + 1]? = some (.cells #[.int .i64 0, .int .i64 0, .string ⟨#[]⟩, .string ⟨#[]⟩, .int .i64 0] 43 (0, 0))) := by
    show _ ∧ _ ∧ _
    rw [hwz]
    exact ⟨block_alloc_old (block_alloc_old (block_alloc_new _ _) _) _, block_alloc_old n1 _, n2⟩
  clear n1 n2
  have HF : Hid (∀ W, Pure wz W → (W.cell? ⟨w.heap.size, 0, none⟩ = some (.slice a0 L.length c0) ∧ W.cell? ⟨w.heap.size + 1, 0, none⟩ = some (.int .i64 x) ∧ W.cell? ⟨w.heap.size + 1, 1, none⟩ = some (.int .i64 y) ∧ Msgs W (.slice a0 L.length c0) L ∧ W.heap[w.heap.size + 1 + 1]? = some (.cells #[.int .i64 0, .int .i64 0, .string ⟨#[]⟩, .string ⟨#[]⟩, .int .i64 0] 43 (0, 0)))) := fun W hW => by
    have e0 := (hW.block _ (lt_of_block hbk.out.1)).trans hbk.out.1
    have e1 := (hW.block _ (lt_of_block hbk.out.2.1)).trans hbk.out.2.1
    have e2 := (hW.block _ (lt_of_block hbk.out.2.2)).trans hbk.out.2.2
    exact ⟨cell_of_block e0 0, cell_of_block e1 0, cell_of_block e1 1, Row.pure h0 (Hpz.out.then_ hW), e2⟩
  have Hfin : Hid (∀ (W : World) (m : Msg), Pure wz W → ((((((W.setCell ⟨w.heap.size + 1 + 1, 0, none⟩ (.int .i64 m.1.1)).setCell ⟨w.heap.size + 1 + 1, 1, none⟩ (.int .i64 m.1.2)).setCell ⟨w.heap.size + 1 + 1, 2, none⟩ (.string (bs m.2.1))).setCell ⟨w.heap.size + 1 + 1, 3, none⟩ (.string (bs m.2.2.1))).setCell ⟨w.heap.size + 1 + 1, 4, none⟩ (.int .i64 m.2.2.2)).heap[w.heap.size + 1 + 1]? = some (.cells #[.int .i64 m.1.1, .int .i64 m.1.2, .string (bs m.2.1), .string (bs m.2.2.1), .int .i64 m.2.2.2] 43 (0, 0)) ∧ Pure w (((((W.setCell ⟨w.heap.size + 1 + 1, 0, none⟩ (.int .i64 m.1.1)).setCell ⟨w.heap.size + 1 + 1, 1, none⟩ (.int .i64 m.1.2)).setCell ⟨w.heap.size + 1 + 1, 2, none⟩ (.string (bs m.2.1))).setCell ⟨w.heap.size + 1 + 1, 3, none⟩ (.string (bs m.2.2.1))).setCell ⟨w.heap.size + 1 + 1, 4, none⟩ (.int .i64 m.2.2.2)))) := fun W m hW => by
    have e2 := (hW.block _ (lt_of_block hbk.out.2.2)).trans hbk.out.2.2
    refine ⟨set5 e2 _ _ _ _ _, ?_⟩
    have hk := kept5 W (w.heap.size + 1 + 1) (.int .i64 m.1.1) (.int .i64 m.1.2) (.string (bs m.2.1)) (.string (bs m.2.2.1)) (.int .i64 m.2.2.2)
    exact ((Pure.kept (S := fun k => w.heap.size ≤ k) (Hpz.out.then_ hW)).trans (hk.mono (fun k _ e => (show w.heap.size ≤ k by omega)))).below (Nat.le_refl _) (fun k hk e => by omega)
  clear h0
  unfold dv
  dsimp only
  go_enter Tryz.func17, Tryz.ntmps17
  go_wp2_with fail
  rw [← hwz]
  clear hwz
  go_loopw [6] (fun i wr => ∃ k : Nat, k ≤ L.length ∧ i = .int .i64 k ∧ (∀ m ∈ L.take k, m.1 ≠ (x, y)) ∧ Pure wz wr) (fun i _ => L.length - (RowKit.intOf i).toNat)
  case atStart => exact ⟨0, Nat.zero_le _, rfl, by simp, Below.refl _ _⟩
  case round =>
    obtain ⟨k, hk, rfl, hno, hp⟩ := hrel
    obtain ⟨g0, g1, g2, hL, hR⟩ := HF.out wr hp
    by_cases hlt : k < L.length
    · have hlt' : (k : Int) < (L.length : Int) := by omega
      obtain ⟨b, off, rfl, hb, z0, z1, z2, z3, z4⟩ := Msgs.get hL hlt
      have Hhit := hid (lget_hit hlt hno)
      have Hmiss : Hid ((L.getD k m0).1 ≠ (x, y) → ∀ m ∈ L.take (k + 1), m.1 ≠ (x, y)) := fun h d hd => by
        rw [take_succ_m L k hlt, List.mem_append, List.mem_singleton] at hd
        rcases hd with hd | rfl
        · exact hno d hd
        · exact h
      have Hp := hid hp
      generalize L.getD k m0 = z at *
      by_cases hx : z.1 = (x, y)
      · have Hh := hid (Hhit.out hx)
        obtain ⟨⟨zx, zy⟩, zq, zb, zc⟩ := z
        simp only [Prod.mk.injEq] at hx
        obtain ⟨hx1, hx2⟩ := hx
        dsimp only at z0 z1 z2 z3 z4
        subst hx1
        subst hx2
        have hR0 := cell_of_block hR 0
        have hR1 := cell_of_block hR 1
        have hR2 := cell_of_block hR 2
        have hR3 := cell_of_block hR 3
        have hR4 := cell_of_block hR 4
        have hF := fun i => free_of_block hR i
        have hsl := lt_of_block hR
        simp only [List.getElem?_toArray, List.getElem?_cons_succ, List.getElem?_cons_zero] at hR0 hR1 hR2 hR3 hR4
        clear hno hp Hhit Hmiss hL hR
        go_wp2_with fail
        go_quiet (fail)
        have Hw := hid (Hfin.out (wr.drewN nq) ((zx, zy), zq, zb, zc) (Hp.out.then_ (pure_drewN _ _)))
        dsimp only at Hw
        have T0 := hid (cell_of_block Hw.out.1 0)
        have T1 := hid (cell_of_block Hw.out.1 1)
        have T2 := hid (cell_of_block Hw.out.1 2)
        have T3 := hid (cell_of_block Hw.out.1 3)
        have T4 := hid (cell_of_block Hw.out.1 4)
        go_wp2
        exact bodyPost_ret (v := .tuple #[.agg #[.int .i64 zx, .int .i64 zy, .string (bs zq), .string (bs zb), .int .i64 zc], .bool true]) (by simp [results, Tryz.results17, go_sem, T0.out, T1.out, T2.out, T3.out, T4.out]) rfl ⟨by rw [Hh.out]; rfl, Hw.out.2⟩
      · have Hm := hid (Hmiss.out hx)
        obtain ⟨⟨zx, zy⟩, zq, zb, zc⟩ := z
        have hx' : (decide (zx = x) && decide (zy = y)) = false := by
          rw [Bool.and_eq_false_iff, decide_eq_false_iff_not, decide_eq_false_iff_not]
          by_cases h1 : zx = x
          · right; intro h2; exact hx (by rw [h1, h2])
          · exact .inl h1
        dsimp only at z0 z1 z2 z3 z4
        have heq2 := fun W => (heq W zx zy x y)
        rw [hx'] at heq2
        clear hno hp Hhit Hmiss hL hR hx
        go_wp2_with fail
        go_quiet (fail)
        go_wp2
        go_roundw
        case rel => exact ⟨k + 1, by omega, by go_num, Hm.out, Hp.out.then_ (pure_drewN _ _)⟩
        case measure => simp [RowKit.intOf]; omega
    · have hlt' : ¬ (k : Int) < (L.length : Int) := by omega
      rw [List.take_of_length_le (by omega)] at hno
      have Hn := hid (lget_none.2 hno)
      have Hp := hid hp
      have hR0 := cell_of_block hR 0
      have hR1 := cell_of_block hR 1
      have hR2 := cell_of_block hR 2
      have hR3 := cell_of_block hR 3
      have hR4 := cell_of_block hR 4
      have hF := fun i => free_of_block hR i
      have hsl := lt_of_block hR
      simp only [List.getElem?_toArray, List.getElem?_cons_succ, List.getElem?_cons_zero] at hR0 hR1 hR2 hR3 hR4
      have Hw := hid (Hfin.out wr m0 hp)
      have T0 := hid (cell_of_block Hw.out.1 0)
      have T1 := hid (cell_of_block Hw.out.1 1)
      have T2 := hid (cell_of_block Hw.out.1 2)
      have T3 := hid (cell_of_block Hw.out.1 3)
      have T4 := hid (cell_of_block Hw.out.1 4)
      unfold m0 bs at Hw T0 T1 T2 T3 T4
      dsimp only at Hw T0 T1 T2 T3 T4
      clear hno hp hL hR
      go_wp2
      exact bodyPost_ret (v := .tuple #[.agg #[.int .i64 0, .int .i64 0, .string ⟨#[]⟩, .string ⟨#[]⟩, .int .i64 0], .bool false]) (by simp [results, Tryz.results17, go_sem, T0.out, T1.out, T2.out, T3.out, T4.out]) rfl ⟨by rw [Hn.out]; rfl, Hw.out.2⟩
end Go.Proofs.YtdlpnhfgjficgaaGreat
