/- Two messages of one name, together: ref05's and the bag's. ref05's Get. ref05's Join. bag.Join: what is alone. -/
import Derived.Test.YtdlpnhfgjficgaaGreatMJm
import Derived.Test.YtdlpnhfgjficgaaGreatShelf
import Derived.Test.YtdlpnhfgjficgaaGreatMPj
import Derived.Test.YtdlpnhfgjficgaaGreatSuf
namespace Go.Proofs.YtdlpnhfgjficgaaGreat
open Go.RowKit Go.Maps Go.Shelf Go.Sort

theorem bs_list9 (l : List UInt8) : (bs l).toList = l := ByteArray.toList_mk l
theorem bs_beq9 (a b : List UInt8) : ((bs a).toList == (bs b).toList) = decide (a = b) := by
  rw [bs_list9, bs_list9]; by_cases h : a = b <;> simp [h]
theorem pure4 (w : World) (a b c d : Obj) : Pure w ((((w.alloc a).alloc b).alloc c).alloc d) :=
  ((((Below.refl _ _).alloc (Nat.le_refl _) _).alloc (by simp) _).alloc (by simp; omega) _).alloc (by simp; omega) _
theorem both_eq (ax ay bx by_ : Int) (aq ab bq bb : List UInt8) (ac bc : Int) (A E C : Bool) (hA : tlt bq aq = A) (hE : decide (bq = aq) = E) (hC : tlt bb ab = C) :
    mv (bothM ((ax, ay), aq, ab, ac) ((bx, by_), bq, bb, bc)) = if (A || (E && C)) = true then .agg #[.int .i64 bx, .int .i64 by_, .string (bs bq), .string (bs bb), .int .i64 (max ac bc)] else .agg #[.int .i64 ax, .int .i64 ay, .string (bs aq), .string (bs ab), .int .i64 (max ac bc)] := by
  unfold bothM qlt mv
  dsimp only
  rw [hA, hE, hC]
  by_cases h : (A || (E && C)) = true
  · rw [if_pos h, if_pos h]
  · rw [if_neg h, if_neg h]

set_option maxRecDepth 8000 in
set_option maxHeartbeats 4000000 in
theorem rboth_any (a b : Msg) (w : World) :
    Calls Tryz.prog 115 #[mv a, mv b] w fun e w' => e = .returned (mv (bothM a b)) ∧ Pure w w' := by
  obtain ⟨⟨ax, ay⟩, aq, ab, ac⟩ := a
  obtain ⟨⟨bx, by_⟩, bq, bb, bc⟩ := b
  have hA : Op.bytesLess (bs bq).toList (bs aq).toList = tlt bq aq := by rw [bs_list9, bs_list9]; rfl
  have hC : Op.bytesLess (bs bb).toList (bs ab).toList = tlt bb ab := by rw [bs_list9, bs_list9]; rfl
  have hE := bs_beq9 bq aq
  have hE2 : ((bs bq).toList = (bs aq).toList) = (decide (bq = aq) = true) := by rw [bs_list9, bs_list9]; simp
  have Hb := hid (both_eq ax ay bx by_ aq ab bq bb ac bc _ _ _ rfl rfl rfl)
  generalize tlt bq aq = A at *
  generalize tlt bb ab = C at *
  generalize decide (bq = aq) = E at *
  rw [Hb.out]
  clear Hb
  unfold mv
  dsimp only
  generalize bs aq = Qa at *
  generalize bs ab = Ba at *
  generalize bs bq = Qb at *
  generalize bs bb = Bb at *
  have hp := hid (pure4 w)
  have hm1 : bc > ac → max ac bc = bc := fun h => by omega
  have hm2 : ¬ bc > ac → max ac bc = ac := fun h => by omega
  have Hm1 := hid hm1
  have Hm2 := hid hm2
  clear hm1 hm2
  go_enter Tryz.func115, Tryz.ntmps115
  by_cases hc : bc > ac
  · rw [Hm1.out hc]
    cases A <;> cases E <;> cases C <;>
    · go_wp2
      exact bodyPost_ret (v := .agg _) (by simp [results, Tryz.results115, go_sem]; rfl) rfl ⟨by simp, hp.out _ _ _ _⟩
  · rw [Hm2.out hc]
    cases A <;> cases E <;> cases C <;>
    · go_wp2
      exact bodyPost_ret (v := .agg _) (by simp [results, Tryz.results115, go_sem]; rfl) rfl ⟨by simp, hp.out _ _ _ _⟩

set_option maxHeartbeats 400000 in
theorem cmps_any (a b : List UInt8) (w : World) : Calls Tryz.prog 148 #[.string (bs a), .string (bs b)] w fun e w' => e = .returned (.int .i64 (Lib.compareBytes a b)) ∧ w' = w :=
  (Tryz.strings_Compare (bs a) (bs b) w).mono fun _ _ h => by simpa [bs] using h
set_option maxRecDepth 8000 in
set_option maxHeartbeats 4000000 in
theorem both_any (a b : Msg) (w : World) :
    Calls Tryz.prog 146 #[mv a, mv b] w fun e w' => e = .returned (mv (bothM a b)) ∧ Pure w w' := by
  obtain ⟨⟨ax, ay⟩, aq, ab, ac⟩ := a
  obtain ⟨⟨bx, by_⟩, bq, bb, bc⟩ := b
  have hA := hid (fun W => cmps_any bq aq W)
  have hC := hid (fun W => cmps_any bb ab W)
  have hE := bs_beq9 bq aq
  have hE2 : ((bs bq).toList = (bs aq).toList) = (decide (bq = aq) = true) := by rw [bs_list9, bs_list9]; simp
  have Hb := hid (both_eq ax ay bx by_ aq ab bq bb ac bc _ _ _ (tlt_cmp bq aq) rfl (tlt_cmp bb ab))
  generalize Lib.compareBytes bq aq = cA at *
  generalize Lib.compareBytes bb ab = cC at *
  generalize decide (bq = aq) = E at *
  rw [Hb.out]
  clear Hb
  unfold mv
  dsimp only
  generalize bs aq = Qa at *
  generalize bs ab = Ba at *
  generalize bs bq = Qb at *
  generalize bs bb = Bb at *
  have hp := hid (pure4 w)
  go_enter Tryz.func146, Tryz.ntmps146
  by_cases hcA : cA < 0
  · rw [decide_eq_true hcA]
    go_wp2_with fail
    refine (hA.out _).mono ?_
    rintro e w1 ⟨rfl, rfl⟩
    go_wp2
    exact bodyPost_ret (v := .agg _) (by simp [results, Tryz.results146, go_sem]; rfl) rfl ⟨by simp, hp.out _ _ _ _⟩
  · rw [decide_eq_false hcA]
    cases E
    · go_wp2_with fail
      refine (hA.out _).mono ?_
      rintro e w1 ⟨rfl, rfl⟩
      go_wp2
      exact bodyPost_ret (v := .agg _) (by simp [results, Tryz.results146, go_sem]; rfl) rfl ⟨by simp, hp.out _ _ _ _⟩
    · by_cases hcC : cC < 0
      · rw [decide_eq_true hcC]
        go_wp2_with fail
        refine (hA.out _).mono ?_
        rintro e w1 ⟨rfl, rfl⟩
        go_wp2_with fail
        refine (hC.out _).mono ?_
        rintro e w1 ⟨rfl, rfl⟩
        go_wp2
        exact bodyPost_ret (v := .agg _) (by simp [results, Tryz.results146, go_sem]; rfl) rfl ⟨by simp, hp.out _ _ _ _⟩
      · rw [decide_eq_false hcC]
        go_wp2_with fail
        refine (hA.out _).mono ?_
        rintro e w1 ⟨rfl, rfl⟩
        go_wp2_with fail
        refine (hC.out _).mono ?_
        rintro e w1 ⟨rfl, rfl⟩
        go_wp2
        exact bodyPost_ret (v := .agg _) (by simp [results, Tryz.results146, go_sem]; rfl) rfl ⟨by simp, hp.out _ _ _ _⟩
end Go.Proofs.YtdlpnhfgjficgaaGreat

namespace Go.Proofs.YtdlpnhfgjficgaaGreat
open Go.RowKit Go.Maps Go.Shelf Go.Sort

theorem set5 {w : World} {b : Nat} {x0 x1 x2 x3 x4 : Value} {t : TypeId} (h : w.heap[b]? = some (.cells #[x0, x1, x2, x3, x4] t (0, 0))) (v0 v1 v2 v3 v4 : Value) :
    (((((w.setCell ⟨b, 0, none⟩ v0).setCell ⟨b, 1, none⟩ v1).setCell ⟨b, 2, none⟩ v2).setCell ⟨b, 3, none⟩ v3).setCell ⟨b, 4, none⟩ v4).heap[b]? = some (.cells #[v0, v1, v2, v3, v4] t (0, 0)) := by
  have := block_setCell (block_setCell (block_setCell (block_setCell (block_setCell h 0 v0) 1 v1) 2 v2) 3 v3) 4 v4
  simpa using this
theorem kept5 (w : World) (b : Nat) (v0 v1 v2 v3 v4 : Value) : Kept (fun k => k = b) w (((((w.setCell ⟨b, 0, none⟩ v0).setCell ⟨b, 1, none⟩ v1).setCell ⟨b, 2, none⟩ v2).setCell ⟨b, 3, none⟩ v3).setCell ⟨b, 4, none⟩ v4) :=
  (((((Kept.refl (fun k => k = b) w).setCell (p := ⟨b, 0, none⟩) (fun _ => rfl) v0).setCell (p := ⟨b, 1, none⟩) (fun _ => rfl) v1).setCell (p := ⟨b, 2, none⟩) (fun _ => rfl) v2).setCell (p := ⟨b, 3, none⟩) (fun _ => rfl) v3).setCell (p := ⟨b, 4, none⟩) (fun _ => rfl) v4
/-- A message, or none, that was handed back. -/
def getR (o : Option Msg) : Value := .tuple #[mv (o.getD m0), .bool o.isSome]
theorem lget_hit {l : List Msg} {d : Dot} {k : Nat} (hk : k < l.length) (hn : ∀ m ∈ l.take k, m.1 ≠ d) (h : (l.getD k m0).1 = d) : lget l d = some (l.getD k m0) := by
  have e : l = l.take k ++ l.drop k := (List.take_append_drop k l).symm
  have e2 : l.drop k = l.getD k m0 :: l.drop (k + 1) := by
    rw [List.drop_eq_getElem_cons hk]; simp [List.getD, hk]
  conv => lhs; rw [e]
  rw [lget_append, lget_none.2 hn, e2, lget_cons, if_pos h]; rfl

set_option maxRecDepth 8000 in
set_option maxHeartbeats 4000000 in
theorem rget_any (v0 v1 v2 : Value) (g : Bag) (d : Dot) (w : World) (hr : BR3 v0 v1 v2 g w) :
    Calls Tryz.prog 17 #[.agg #[v0, v1, v2], dv d] w fun e w' => e = .returned (getR (lget g.1 d)) ∧ Pure w w' := by
  obtain ⟨L, B, C⟩ := g
  obtain ⟨x, y⟩ := d
  have heq := dot_eqIn
  obtain ⟨h0, -, -⟩ := hr
  dsimp only at h0 ⊢
  obtain ⟨a0, c0, rfl⟩ := h0.shape
  have hll : L.length ≤ maxLen := Row.len_le h0
  unfold maxLen at hll
  obtain ⟨wz, hwz⟩ : ∃ wz, wz = ((w.alloc (.cells #[.slice a0 L.length c0, v1, v2] 34)).alloc (.cells #[.int .i64 x, .int .i64 y] 28)).alloc (.cells #[.int .i64 0, .int .i64 0, .string ⟨#[]⟩, .string ⟨#[]⟩, .int .i64 0] 43) := ⟨_, rfl⟩
  have Hpz := hid (show Pure w wz from by rw [hwz]; exact (((Below.refl _ _).alloc (Nat.le_refl _) _).alloc (by simp) _).alloc (by simp; omega) _)
  have n1 := block_alloc_new (w.alloc (.cells #[.slice a0 L.length c0, v1, v2] 34)) (.cells #[.int .i64 x, .int .i64 y] 28)
  have n2 := block_alloc_new ((w.alloc (.cells #[.slice a0 L.length c0, v1, v2] 34)).alloc (.cells #[.int .i64 x, .int .i64 y] 28)) (.cells #[.int .i64 0, .int .i64 0, .string ⟨#[]⟩, .string ⟨#[]⟩, .int .i64 0] 43)
  simp only [World.size_alloc] at n1 n2
  have hbk : Hid (wz.heap[w.heap.size]? = some (.cells #[.slice a0 L.length c0, v1, v2] 34 (0, 0)) ∧ wz.heap[w.heap.size + 1]? = some (.cells #[.int .i64 x, .int .i64 y] 28 (0, 0)) ∧ wz.heap[w.heap.size + 1 + 1]? = some (.cells #[.int .i64 0, .int .i64 0, .string ⟨#[]⟩, .string ⟨#[]⟩, .int .i64 0] 43 (0, 0))) := by
    show _ ∧ _ ∧ _
    rw [hwz]
    exact ⟨block_alloc_old (block_alloc_old (block_alloc_new _ _) _) _, block_alloc_old n1 _, n2⟩
  clear n1 n2
  have HF : Hid (∀ W, Pure wz W → (W.cell? ⟨w.heap.size, 0, none⟩ = some (.slice a0 L.length c0) ∧ W.cell? ⟨w.heap.size + 1, 0, none⟩ = some (.int .i64 x) ∧ W.cell? ⟨w.heap.size + 1, 1, none⟩ = some (.int .i64 y) ∧ Msgs W (.slice a0 L.length c0) L ∧ W.heap[w.heap.size + 1 + 1]? = some (.cells #[.int .i64 0, .int .i64 0, .string ⟨#[]⟩, .string ⟨#[]⟩, .int .i64 0] 43 (0, 0)))) := fun W hW => by
    have e0 := (hW.block _ (lt_of_block hbk.out.1)).trans hbk.out.1
    have e1 := (hW.block _ (lt_of_block hbk.out.2.1)).trans hbk.out.2.1
    have e2 := (hW.block _ (lt_of_block hbk.out.2.2)).trans hbk.out.2.2
    exact ⟨cell_of_block e0 0, cell_of_block e1 0, cell_of_block e1 1, Row.pure h0 (Hpz.out.then_ hW), e2⟩
  have Hfin : Hid (∀ (W : World) (m : Msg), Pure wz W → ((((((W.setCell ⟨w.heap.size + 1 + 1, 0, none⟩ (.int .i64 m.1.1)).setCell ⟨w.heap.size + 1 + 1, 1, none⟩ (.int .i64 m.1.2)).setCell ⟨w.heap.size + 1 + 1, 2, none⟩ (.string (bs m.2.1))).setCell ⟨w.heap.size + 1 + 1, 3, none⟩ (.string (bs m.2.2.1))).setCell ⟨w.heap.size + 1 + 1, 4, none⟩ (.int .i64 m.2.2.2)).heap[w.heap.size + 1 + 1]? = some (.cells #[.int .i64 m.1.1, .int .i64 m.1.2, .string (bs m.2.1), .string (bs m.2.2.1), .int .i64 m.2.2.2] 43 (0, 0)) ∧ Pure w (((((W.setCell ⟨w.heap.size + 1 + 1, 0, none⟩ (.int .i64 m.1.1)).setCell ⟨w.heap.size + 1 + 1, 1, none⟩ (.int .i64 m.1.2)).setCell ⟨w.heap.size + 1 + 1, 2, none⟩ (.string (bs m.2.1))).setCell ⟨w.heap.size + 1 + 1, 3, none⟩ (.string (bs m.2.2.1))).setCell ⟨w.heap.size + 1 + 1, 4, none⟩ (.int .i64 m.2.2.2)))) := fun W m hW => by
    have e2 := (hW.block _ (lt_of_block hbk.out.2.2)).trans hbk.out.2.2
    refine ⟨set5 e2 _ _ _ _ _, ?_⟩
    have hk := kept5 W (w.heap.size + 1 + 1) (.int .i64 m.1.1) (.int .i64 m.1.2) (.string (bs m.2.1)) (.string (bs m.2.2.1)) (.int .i64 m.2.2.2)
    exact ((Pure.kept (S := fun k => w.heap.size ≤ k) (Hpz.out.then_ hW)).trans (hk.mono (fun k _ e => (show w.heap.size ≤ k by omega)))).below (Nat.le_refl _) (fun k hk e => by omega)
  clear h0
  unfold dv
  dsimp only
  go_enter Tryz.func17, Tryz.ntmps17
  go_wp2_with fail
  rw [← hwz]
  clear hwz
  go_loopw [6] (fun i wr => ∃ k : Nat, k ≤ L.length ∧ i = .int .i64 k ∧ (∀ m ∈ L.take k, m.1 ≠ (x, y)) ∧ Pure wz wr) (fun i _ => L.length - (RowKit.intOf i).toNat)
  case atStart => exact ⟨0, Nat.zero_le _, rfl, by simp, Below.refl _ _⟩
  case round =>
    obtain ⟨k, hk, rfl, hno, hp⟩ := hrel
    obtain ⟨g0, g1, g2, hL, hR⟩ := HF.out wr hp
    by_cases hlt : k < L.length
    · have hlt' : (k : Int) < (L.length : Int) := by omega
      obtain ⟨b, off, rfl, hb, z0, z1, z2, z3, z4⟩ := Msgs.get hL hlt
      have Hhit := hid (lget_hit hlt hno)
      have Hmiss : Hid ((L.getD k m0).1 ≠ (x, y) → ∀ m ∈ L.take (k + 1), m.1 ≠ (x, y)) := fun h d hd => by
        rw [take_succ_m L k hlt, List.mem_append, List.mem_singleton] at hd
        rcases hd with hd | rfl
        · exact hno d hd
        · exact h
      have Hp := hid hp
      generalize L.getD k m0 = z at *
      by_cases hx : z.1 = (x, y)
      · have Hh := hid (Hhit.out hx)
        obtain ⟨⟨zx, zy⟩, zq, zb, zc⟩ := z
        simp only [Prod.mk.injEq] at hx
        obtain ⟨hx1, hx2⟩ := hx
        dsimp only at z0 z1 z2 z3 z4
        subst hx1
        subst hx2
        have hR0 := cell_of_block hR 0
        have hR1 := cell_of_block hR 1
        have hR2 := cell_of_block hR 2
        have hR3 := cell_of_block hR 3
        have hR4 := cell_of_block hR 4
        have hF := fun i => free_of_block hR i
        have hsl := lt_of_block hR
        simp only [List.getElem?_toArray, List.getElem?_cons_succ, List.getElem?_cons_zero] at hR0 hR1 hR2 hR3 hR4
        clear hno hp Hhit Hmiss hL hR
        go_wp2_with fail
        go_quiet (fail)
        have Hw := hid (Hfin.out (wr.drewN nq) ((zx, zy), zq, zb, zc) (Hp.out.then_ (pure_drewN _ _)))
        dsimp only at Hw
        have T0 := hid (cell_of_block Hw.out.1 0)
        have T1 := hid (cell_of_block Hw.out.1 1)
        have T2 := hid (cell_of_block Hw.out.1 2)
        have T3 := hid (cell_of_block Hw.out.1 3)
        have T4 := hid (cell_of_block Hw.out.1 4)
        go_wp2
        exact bodyPost_ret (v := .tuple #[.agg #[.int .i64 zx, .int .i64 zy, .string (bs zq), .string (bs zb), .int .i64 zc], .bool true]) (by simp [results, Tryz.results17, go_sem, T0.out, T1.out, T2.out, T3.out, T4.out]) rfl ⟨by rw [Hh.out]; rfl, Hw.out.2⟩
      · have Hm := hid (Hmiss.out hx)
        obtain ⟨⟨zx, zy⟩, zq, zb, zc⟩ := z
        have hx' : (decide (zx = x) && decide (zy = y)) = false := by
          rw [Bool.and_eq_false_iff, decide_eq_false_iff_not, decide_eq_false_iff_not]
          by_cases h1 : zx = x
          · right; intro h2; exact hx (by rw [h1, h2])
          · exact .inl h1
        dsimp only at z0 z1 z2 z3 z4
        have heq2 := fun W => (heq W zx zy x y)
        rw [hx'] at heq2
        clear hno hp Hhit Hmiss hL hR hx
        go_wp2_with fail
        go_quiet (fail)
        go_wp2
        go_roundw
        case rel => exact ⟨k + 1, by omega, by go_num, Hm.out, Hp.out.then_ (pure_drewN _ _)⟩
        case measure => simp [RowKit.intOf]; omega
    · have hlt' : ¬ (k : Int) < (L.length : Int) := by omega
      rw [List.take_of_length_le (by omega)] at hno
      have Hn := hid (lget_none.2 hno)
      have Hp := hid hp
      have hR0 := cell_of_block hR 0
      have hR1 := cell_of_block hR 1
      have hR2 := cell_of_block hR 2
      have hR3 := cell_of_block hR 3
      have hR4 := cell_of_block hR 4
      have hF := fun i => free_of_block hR i
      have hsl := lt_of_block hR
      simp only [List.getElem?_toArray, List.getElem?_cons_succ, List.getElem?_cons_zero] at hR0 hR1 hR2 hR3 hR4
      have Hw := hid (Hfin.out wr m0 hp)
      have T0 := hid (cell_of_block Hw.out.1 0)
      have T1 := hid (cell_of_block Hw.out.1 1)
      have T2 := hid (cell_of_block Hw.out.1 2)
      have T3 := hid (cell_of_block Hw.out.1 3)
      have T4 := hid (cell_of_block Hw.out.1 4)
      unfold m0 bs at Hw T0 T1 T2 T3 T4
      dsimp only at Hw T0 T1 T2 T3 T4
      clear hno hp hL hR
      go_wp2
      exact bodyPost_ret (v := .tuple #[.agg #[.int .i64 0, .int .i64 0, .string ⟨#[]⟩, .string ⟨#[]⟩, .int .i64 0], .bool false]) (by simp [results, Tryz.results17, go_sem, T0.out, T1.out, T2.out, T3.out, T4.out]) rfl ⟨by rw [Hn.out]; rfl, Hw.out.2⟩
end Go.Proofs.YtdlpnhfgjficgaaGreat

namespace Go.Proofs.YtdlpnhfgjficgaaGreat
open Go.RowKit Go.Maps Go.Shelf Go.Sort

/-- A message in a box of its own. -/
structure MX (n : Nat) (m : Msg) (W : World) : Prop where
  b : W.heap[n]? = some (.cells #[.int .i64 m.1.1, .int .i64 m.1.2, .string (bs m.2.1), .string (bs m.2.2.1), .int .i64 m.2.2.2] 43 (0, 0))
theorem MX.pure {n : Nat} {m : Msg} {W W' : World} (h : MX n m W) (hp : Pure W W') : MX n m W' := ⟨(hp.block _ (lt_of_block h.b)).trans h.b⟩
theorem MX.made (w : World) (m : Msg) : MX w.heap.size m (w.alloc (.cells #[.int .i64 m.1.1, .int .i64 m.1.2, .string (bs m.2.1), .string (bs m.2.2.1), .int .i64 m.2.2.2] 43)) := ⟨block_alloc_new _ _⟩
theorem MX.cells {n : Nat} {x y : Int} {q b : List UInt8} {c : Int} {W : World} (h : MX n ((x, y), q, b, c) W) : W.cell? ⟨n, 0, none⟩ = some (.int .i64 x) ∧ W.cell? ⟨n, 1, none⟩ = some (.int .i64 y) ∧ W.cell? ⟨n, 2, none⟩ = some (.string (bs q)) ∧ W.cell? ⟨n, 3, none⟩ = some (.string (bs b)) ∧ W.cell? ⟨n, 4, none⟩ = some (.int .i64 c) :=
  ⟨cell_of_block h.b 0, cell_of_block h.b 1, cell_of_block h.b 2, cell_of_block h.b 3, cell_of_block h.b 4⟩

end Go.Proofs.YtdlpnhfgjficgaaGreat

namespace Go.Proofs.YtdlpnhfgjficgaaGreat
open Go.RowKit Go.Maps Go.Shelf Go.Sort

set_option maxRecDepth 8000 in
set_option maxHeartbeats 4000000 in
theorem alone_any (m : Msg) (c1 c2 : Value) (X : List Dot × List Dot) (n o : Nat) (w6 : World) (y0 y1 y2 : Value) (Y : List Msg) (W : World) (hc : CR c1 c2 X W) (sx : Sml n X) (hn : n ≤ 1000) (hB : BL o w6 y0 y1 y2 Y W) (ho : o < w6.heap.size) (hY : Y.length ≤ 10000) :
    Calls Tryz.prog 143 #[mv m, .agg #[c1, c2], .pointer (some ⟨o, 0, none⟩)] W fun e w' => e = .returned (.tuple #[]) ∧ ∃ y0', BL o w6 y0' y1 y2 (Y ++ alo (chas X.1 X.2) m) w' := by
  obtain ⟨⟨x, y⟩, q, b, c⟩ := m
  obtain ⟨wz, hwz⟩ : ∃ wz, wz = (W.alloc (.cells #[.int .i64 x, .int .i64 y, .string (bs q), .string (bs b), .int .i64 c] 43)).alloc (.cells #[c1, c2] 32) := ⟨_, rfl⟩
  have hpz : Pure W wz := by rw [hwz]; exact ((Below.refl _ _).alloc (Nat.le_refl _) _).alloc (by simp) _
  have hmz : MX W.heap.size ((x, y), q, b, c) wz := by rw [hwz]; exact (MX.made W ((x, y), q, b, c)).pure ((Below.refl _ _).alloc (Nat.le_refl _) _)
  have hcz : wz.heap[W.heap.size + 1]? = some (.cells #[c1, c2] 32 (0, 0)) := by
    have := block_alloc_new (W.alloc (.cells #[.int .i64 x, .int .i64 y, .string (bs q), .string (bs b), .int .i64 c] 43)) (.cells #[c1, c2] 32)
    rw [World.size_alloc] at this
    rw [hwz]; exact this
  have Hh := hid (hasB (x, y) (hc.pure hpz) sx hn)
  have Hm := hid hmz
  have HB := hid (fun W' (hW : Pure wz W') => hB.pure (hpz.then_ hW))
  obtain ⟨a9, c9, rfl⟩ := own_shape_d hB.r0
  have hks := hB.k.size
  have hps := hpz.size
  unfold alo mv
  dsimp only at Hh ⊢
  generalize chas X.1 X.2 (x, y) = ct at *
  obtain ⟨m0', m1', m2', m3', m4'⟩ := hmz.cells
  have k0 := cell_of_block hcz 0
  have k1 := cell_of_block hcz 1
  simp only [List.getElem?_toArray, List.getElem?_cons_succ, List.getElem?_cons_zero] at k0 k1
  rw [hwz] at m0' m1' m2' m3' m4' k0 k1
  clear hB hc hpz hmz hcz sx
  go_enter Tryz.func143, Tryz.ntmps143
  go_wp2_with fail
  rw [← hwz]
  clear hwz m0' m1' m2' m3' m4' k0 k1
  refine Hh.out.mono ?_
  rintro e w2 ⟨rfl, hp2⟩
  obtain ⟨m0', m1', m2', m3', m4'⟩ := (Hm.out.pure hp2).cells
  have HB2 := hid (HB.out w2 hp2)
  obtain ⟨o0, o1, o2, o3⟩ := HB2.out.cells
  have hs2 := hp2.size
  clear Hh hp2
  cases ct with
  | true =>
    go_wp2
    go_end0
    exact ⟨rfl, _, by simpa using HB2.out⟩
  | false =>
    have b4 : w6.heap.size ≤ (w2.alloc (.cells #[.int .i64 x, .int .i64 y, .string (bs q), .string (bs b), .int .i64 c] 43)).heap.size := by simp; omega
    have hgr := hid (fun (v' : Value) (w' : World) (h1 : w'.ownsRow w6.heap.size 43 5 v' (Y.length + 1) (mvs (Y ++ [((x, y), q, b, c)]))) (h2 : (w2.alloc (.cells #[.int .i64 x, .int .i64 y, .string (bs q), .string (bs b), .int .i64 c] 43)).grownBy w' (Value.slice a9 Y.length c9).ownBlock) =>
      (HB2.out.pure (show Pure w2 (w2.alloc (.cells #[.int .i64 x, .int .i64 y, .string (bs q), .string (bs b), .int .i64 c] 43)) from (Below.refl _ _).alloc (Nat.le_refl _) _)).grow h2 (L' := Y ++ [((x, y), q, b, c)]) (by rw [List.length_append]; exact h1) ho)
    have hol : o < w2.heap.size := by omega
    go_wp2_with (at_builtin; refine wpList_append_msgs rfl _ _ rfl w6.heap.size _ Y Y.length rfl (HB2.out.r0.alloc _) _ [((x, y), q, b, c)] 1 rfl (msgs_lit w2 ((x, y), q, b, c)) (by omega) b4 ?_)
    intro v4 w4 hown4 hg4
    obtain ⟨hb', hL'⟩ := hgr.out v4 w4 hown4 hg4
    have s1 := cell_of_block hb' 0
    have s2 := free_of_block hb' 0
    obtain ⟨a8, c8, rfl⟩ := own_shape_d hown4
    simp only [List.getElem?_toArray, List.getElem?_cons_zero] at s1
    have HL := hid hL'
    clear hown4 hg4 hb' hL'
    go_wp2
    go_end0
    exact ⟨rfl, _, by simpa using HL.out⟩
end Go.Proofs.YtdlpnhfgjficgaaGreat

