/- view.age, slices.Compare of two [3]int, view.later. -/
import Derived.Test.YtdlpnhfgjficgaaGreatMBs
import Derived.Test.YtdlpnhfgjficgaaGreatPA
import Derived.Test.YtdlpnhfgjficgaaGreatMVv
import Derived.Deep.RegionHeld3
import Derived.BigQuiet
namespace Go.Proofs.YtdlpnhfgjficgaaGreat
open Go.RowKit Go.Maps Go.Shelf Go.Sort

def agel (p : Pr) : Int := if p.st = 2 then 1 else 0
set_option maxHeartbeats 1000000 in
theorem age_any (p : Pr) (w : World) : Calls Tryz.prog 191 #[pv p] w fun e w' => e = .returned (.agg #[.int .i64 (agel p), .int .i64 p.inc, .int .i64 p.st]) ∧ Pure w w' := by
  obtain ⟨x, y, z⟩ := p
  have hp := hid (show ∀ a b, Pure w ((w.alloc a).alloc b) from fun a b => ((Below.refl _ _).alloc (Nat.le_refl _) _).alloc (by simp) _)
  have hpz := hid (fun (a b : Obj) (u v t : Value) => (show Pure w (((((w.alloc a).alloc b).setCell ⟨w.heap.size + 1, 0, none⟩ u).setCell ⟨w.heap.size + 1, 1, none⟩ v).setCell ⟨w.heap.size + 1, 2, none⟩ t) from
    Below.setCell (Below.setCell (Below.setCell (hp.out a b) (by simp; try omega) _) (by simp; try omega) _) (by simp; try omega) _))
  unfold pv agel
  dsimp only
  by_cases hz : z = 2
  · have hz' : (z == 2) = true := by simp [hz]
    rw [if_pos hz]
    clear hz
    go_enter Tryz.func191, Tryz.ntmps191
    go_wp2
    exact bodyPost_ret (v := .agg #[.int .i64 1, .int .i64 y, .int .i64 z]) (by simp [results, Tryz.results191, go_sem]) rfl ⟨rfl, by first | exact hp.out _ _ | exact hpz.out _ _ _ _ _⟩
  · have hz' : (z == 2) = false := by simp [hz]
    rw [if_neg hz]
    clear hz
    go_enter Tryz.func191, Tryz.ntmps191
    go_wp2
    exact bodyPost_ret (v := .agg #[.int .i64 0, .int .i64 y, .int .i64 z]) (by simp [results, Tryz.results191, go_sem]) rfl ⟨rfl, by first | exact hp.out _ _ | exact hpz.out _ _ _ _ _⟩

/-- How two triples stand. -/
def c3 (x0 x1 x2 y0 y1 y2 : Int) : Int := if Lib.compareInt x0 y0 = 0 then (if Lib.compareInt x1 y1 = 0 then Lib.compareInt x2 y2 else Lib.compareInt x1 y1) else Lib.compareInt x0 y0
/-- Block n holds three numbers. -/
def BA3 (n : Nat) (x y z : Int) (W : World) : Prop := W.heap[n]? = some (.cells #[.int .i64 x, .int .i64 y, .int .i64 z] 191 (0, 0))
theorem alp3 (W : World) (o : Obj) : Pure W (W.alloc o) := (Below.refl _ _).alloc (Nat.le_refl _) _
theorem BA3.pure {n : Nat} {x y z : Int} {W W' : World} (h : BA3 n x y z W) (hp : Pure W W') : BA3 n x y z W' := (hp.block _ (lt_of_block h)).trans h
theorem BA3.cells {n : Nat} {x y z : Int} {W : World} (h : BA3 n x y z W) : W.cell? ⟨n, 0, none⟩ = some (.int .i64 x) ∧ W.cell? ⟨n, 1, none⟩ = some (.int .i64 y) ∧ W.cell? ⟨n, 2, none⟩ = some (.int .i64 z) ∧ W.frozen? ⟨n, 0, none⟩ = false ∧ W.frozen? ⟨n, 1, none⟩ = false ∧ W.frozen? ⟨n, 2, none⟩ = false := by
  unfold BA3 at h
  refine ⟨?_, ?_, ?_, ?_, ?_, ?_⟩ <;> simp [World.cell?, World.frozen?, h]
theorem BA3.other {n m : Nat} {x y z : Int} {u v t : Value} {W : World} (h : BA3 n x y z W) (hn : m ≠ n) : BA3 n x y z (((W.setCell ⟨m, 0, none⟩ u).setCell ⟨m, 1, none⟩ v).setCell ⟨m, 2, none⟩ t) := by
  exact block_setCell_other (block_setCell_other (block_setCell_other h _ hn _) _ hn _) _ hn _
theorem BA3.put {n : Nat} {x y z : Int} {W : World} (h : BA3 n x y z W) (u v t : Int) : BA3 n u v t (((W.setCell ⟨n, 0, none⟩ (.int .i64 u)).setCell ⟨n, 1, none⟩ (.int .i64 v)).setCell ⟨n, 2, none⟩ (.int .i64 t)) := by
  have := block_setCell (block_setCell (block_setCell h 0 (.int .i64 u)) 1 (.int .i64 v)) 2 (.int .i64 t)
  unfold BA3
  simpa using this

/-- A box of a peer holds three numbers. -/
def BA4 (n : Nat) (x y z : Int) (W : World) : Prop := W.cell? ⟨n, 0, none⟩ = some (.int .i64 x) ∧ W.cell? ⟨n, 1, none⟩ = some (.int .i64 y) ∧ W.cell? ⟨n, 2, none⟩ = some (.int .i64 z)
theorem BA4.put {n : Nat} {p q r : Value} {W : World} (h : W.heap[n]? = some (.cells #[p, q, r] 92 (0, 0))) (u v t : Int) : BA4 n u v t (((W.setCell ⟨n, 0, none⟩ (.int .i64 u)).setCell ⟨n, 1, none⟩ (.int .i64 v)).setCell ⟨n, 2, none⟩ (.int .i64 t)) := by
  have hh := block_setCell (block_setCell (block_setCell h 0 (.int .i64 u)) 1 (.int .i64 v)) 2 (.int .i64 t)
  have e := cell_of_block hh
  exact ⟨(e 0).trans (by simp), (e 1).trans (by simp), (e 2).trans (by simp)⟩

set_option maxHeartbeats 2000000 in
theorem compare3_any (nx ny : Nat) (x0 x1 x2 y0 y1 y2 : Int) (w : World) (hx : BA3 nx x0 x1 x2 w) (hy : BA3 ny y0 y1 y2 w) :
    Calls Tryz.prog 192 #[.slice (some ⟨nx, 0, none⟩) 3 3, .slice (some ⟨ny, 0, none⟩) 3 3] w fun e w' => e = .returned (.int .i64 (c3 x0 x1 x2 y0 y1 y2)) ∧ w' = w := by
  obtain ⟨p0, p1, p2, _, _, _⟩ := hx.cells
  obtain ⟨q0, q1, q2, _, _, _⟩ := hy.cells
  have h0 := hid (fun W => Tryz.cmp_Compare_int x0 y0 W)
  have h1 := hid (fun W => Tryz.cmp_Compare_int x1 y1 W)
  have h2 := hid (fun W => Tryz.cmp_Compare_int x2 y2 W)
  clear hx hy
  unfold c3
  generalize Lib.compareInt x0 y0 = X0 at *
  generalize Lib.compareInt x1 y1 = X1 at *
  generalize Lib.compareInt x2 y2 = X2 at *
  by_cases e0 : X0 = 0
  · subst e0
    by_cases e1 : X1 = 0
    · subst e1
      by_cases e2 : X2 = 0
      · subst e2
        go_enter Tryz.func192, Tryz.ntmps192
        go_wp2
        go_loop [5, 6, 7, 8, 11] (fun _ _ _ _ i => i = .int .i64 0 ∨ i = .int .i64 1 ∨ i = .int .i64 2 ∨ i = .int .i64 3) (fun _ _ _ _ i => 3 - (RowKit.intOf i).toNat)
        case atStart => exact .inl rfl
        case round =>
          rcases hrel with rfl | rfl | rfl | rfl
          · go_wp2_with (first | (go_at_call 156; refine (h0.out _).mono ?_; rintro e w1 ⟨rfl, rfl⟩) | fail)
            go_round
            case rel => exact .inr (.inl rfl)
            case measure => simp [RowKit.intOf]
          · go_wp2_with (first | (go_at_call 156; refine (h1.out _).mono ?_; rintro e w1 ⟨rfl, rfl⟩) | fail)
            go_round
            case rel => exact .inr (.inr (.inl rfl))
            case measure => simp [RowKit.intOf]
          · go_wp2_with (first | (go_at_call 156; refine (h2.out _).mono ?_; rintro e w1 ⟨rfl, rfl⟩) | fail)
            go_round
            case rel => exact .inr (.inr (.inr rfl))
            case measure => simp [RowKit.intOf]
          · go_wp2
            go_ret
            exact ⟨by simp, rfl⟩
      · have e2' : (X2 != 0) = true := by simp [e2]
        go_enter Tryz.func192, Tryz.ntmps192
        go_wp2
        go_loop [5, 6, 7, 8, 11] (fun _ _ _ _ i => i = .int .i64 0 ∨ i = .int .i64 1 ∨ i = .int .i64 2) (fun _ _ _ _ i => 3 - (RowKit.intOf i).toNat)
        case atStart => exact .inl rfl
        case round =>
          rcases hrel with rfl | rfl | rfl
          · go_wp2_with (first | (go_at_call 156; refine (h0.out _).mono ?_; rintro e w1 ⟨rfl, rfl⟩) | fail)
            go_round
            case rel => exact .inr (.inl rfl)
            case measure => simp [RowKit.intOf]
          · go_wp2_with (first | (go_at_call 156; refine (h1.out _).mono ?_; rintro e w1 ⟨rfl, rfl⟩) | fail)
            go_round
            case rel => exact .inr (.inr rfl)
            case measure => simp [RowKit.intOf]
          · go_wp2_with (first | (go_at_call 156; refine (h2.out _).mono ?_; rintro e w1 ⟨rfl, rfl⟩) | fail)
            go_ret
            exact ⟨by simp, rfl⟩
    · have e1' : (X1 != 0) = true := by simp [e1]
      go_enter Tryz.func192, Tryz.ntmps192
      go_wp2
      go_loop [5, 6, 7, 8, 11] (fun _ _ _ _ i => i = .int .i64 0 ∨ i = .int .i64 1) (fun _ _ _ _ i => 3 - (RowKit.intOf i).toNat)
      case atStart => exact .inl rfl
      case round =>
        rcases hrel with rfl | rfl
        · go_wp2_with (first | (go_at_call 156; refine (h0.out _).mono ?_; rintro e w1 ⟨rfl, rfl⟩) | fail)
          go_round
          case rel => exact .inr rfl
          case measure => simp [RowKit.intOf]
        · go_wp2_with (first | (go_at_call 156; refine (h1.out _).mono ?_; rintro e w1 ⟨rfl, rfl⟩) | fail)
          go_ret
          exact ⟨by simp, rfl⟩
  · have e0' : (X0 != 0) = true := by simp [e0]
    go_enter Tryz.func192, Tryz.ntmps192
    go_wp2
    go_loop [5, 6, 7, 8, 11] (fun _ _ _ _ i => i = .int .i64 0) (fun _ _ _ _ i => 3 - (RowKit.intOf i).toNat)
    case atStart => rfl
    case round =>
      subst hrel
      go_wp2_with (first | (go_at_call 156; refine (h0.out _).mono ?_; rintro e w1 ⟨rfl, rfl⟩) | fail)
      go_ret
      exact ⟨by simp, rfl⟩

theorem later_c3 (a b : Pr) : later a b = if c3 (agel a) a.inc a.st (agel b) b.inc b.st < 0 then b else a := by
  obtain ⟨a1, a2, a3⟩ := a
  obtain ⟨b1, b2, b3⟩ := b
  unfold later c3 agel Lib.compareInt
  dsimp only
  by_cases h1 : a3 = 2 <;> by_cases h2 : b3 = 2 <;> by_cases h3 : a2 < b2 <;> by_cases h4 : b2 < a2 <;> by_cases h5 : a3 < b3 <;> by_cases h6 : b3 < a3 <;> simp only [h1, h2, h3, h4, h5, h6, if_true, if_false, true_or, false_or] <;> (try (exfalso; omega)) <;> (try simp) <;> (try (intros; omega))
set_option maxRecDepth 8000 in
set_option maxHeartbeats 8000000 in
theorem vlater_any (a b : Pr) (w : World) : Calls Tryz.prog 151 #[pv a, pv b] w fun e w' => e = .returned (pv (later a b)) ∧ Pure w w' := by
  have ha := hid (fun W => age_any a W)
  have hb := hid (fun W => age_any b W)
  rw [later_c3]
  generalize agel a = la at *
  generalize agel b = lb at *
  obtain ⟨r, hr⟩ : ∃ r, r = (if c3 la a.inc a.st lb b.inc b.st < 0 then b else a) := ⟨_, rfl⟩
  rw [← hr]
  have Hr := hid hr
  clear hr
  obtain ⟨a1, a2, a3⟩ := a
  obtain ⟨b1, b2, b3⟩ := b
  obtain ⟨r1, r2, r3⟩ := r
  unfold pv at *
  dsimp only at *
  have hcm := hid (fun nx ny W h1 h2 => compare3_any nx ny la a2 a3 lb b2 b3 W h1 h2)
  generalize c3 la a2 a3 lb b2 b3 = c at *
  obtain ⟨wz, hwz⟩ : ∃ wz, wz = ((w.alloc (.cells #[.int .i64 a1, .int .i64 a2, .int .i64 a3] 92)).alloc (.cells #[.int .i64 b1, .int .i64 b2, .int .i64 b3] 92)).alloc (.cells #[.int .i64 0, .int .i64 0, .int .i64 0] 92) := ⟨_, rfl⟩
  have Hpz := hid (show Pure w wz from by rw [hwz]; exact (((Below.refl _ _).alloc (Nat.le_refl _) _).alloc (by simp) _).alloc (by simp; omega) _)
  have n0 := block_alloc_new w (.cells #[.int .i64 a1, .int .i64 a2, .int .i64 a3] 92)
  have n1 := block_alloc_new (w.alloc (.cells #[.int .i64 a1, .int .i64 a2, .int .i64 a3] 92)) (.cells #[.int .i64 b1, .int .i64 b2, .int .i64 b3] 92)
  have n2 := block_alloc_new ((w.alloc (.cells #[.int .i64 a1, .int .i64 a2, .int .i64 a3] 92)).alloc (.cells #[.int .i64 b1, .int .i64 b2, .int .i64 b3] 92)) (.cells #[.int .i64 0, .int .i64 0, .int .i64 0] 92)
  rw [World.size_alloc] at n1
  rw [World.size_alloc, World.size_alloc] at n2
  have B2 := hid (show wz.heap[w.heap.size]? = some (.cells #[.int .i64 a1, .int .i64 a2, .int .i64 a3] 92 (0, 0)) from by rw [hwz]; exact block_alloc_old (block_alloc_old n0 _) _)
  have B3 := hid (show wz.heap[w.heap.size + 1]? = some (.cells #[.int .i64 b1, .int .i64 b2, .int .i64 b3] 92 (0, 0)) from by rw [hwz]; exact block_alloc_old n1 _)
  have B4 := hid (show wz.heap[w.heap.size + 1 + 1]? = some (.cells #[.int .i64 0, .int .i64 0, .int .i64 0] 92 (0, 0)) from by rw [hwz]; exact n2)
  have Hn := hid (show w.heap.size ≤ w.heap.size + 1 + 1 from by omega)
  clear n0 n1 n2
  go_enter Tryz.func151, Tryz.ntmps151
  go_upto_region 1 with fail
  rw [← hwz]
  clear hwz
  generalize hn4 : w.heap.size + 1 + 1 = n4r at *
  generalize hn3 : w.heap.size + 1 = n3 at *
  generalize hn2 : w.heap.size = n2 at *
  have Hn2 := hid hn2
  clear hn2 hn3
  go_cut [5, 6] from 7 (fun p5 p6 W => ∃ (n4 n5 : Nat), p5 = .pointer (some ⟨n4, 0, none⟩) ∧ p6 = .pointer (some ⟨n5, 0, none⟩) ∧ BA3 n4 la a2 a3 W ∧ BA3 n5 lb b2 b3 W ∧ Pure wz W)
  case first =>
    have hS := hid (fun W (hW : Pure wz W) => (show W.cell? ⟨n2, 0, none⟩ = some (.int .i64 a1) ∧ W.cell? ⟨n2, 1, none⟩ = some (.int .i64 a2) ∧ W.cell? ⟨n2, 2, none⟩ = some (.int .i64 a3) ∧ W.cell? ⟨n3, 0, none⟩ = some (.int .i64 b1) ∧ W.cell? ⟨n3, 1, none⟩ = some (.int .i64 b2) ∧ W.cell? ⟨n3, 2, none⟩ = some (.int .i64 b3) from
      ⟨cell_of_block ((hW.block _ (lt_of_block B2.out)).trans B2.out) 0, cell_of_block ((hW.block _ (lt_of_block B2.out)).trans B2.out) 1, cell_of_block ((hW.block _ (lt_of_block B2.out)).trans B2.out) 2, cell_of_block ((hW.block _ (lt_of_block B3.out)).trans B3.out) 0, cell_of_block ((hW.block _ (lt_of_block B3.out)).trans B3.out) 1, cell_of_block ((hW.block _ (lt_of_block B3.out)).trans B3.out) 2⟩))
    refine wp_region_held_drew (S := (fun W => W.cell? ⟨n2, 0, none⟩ = some (.int .i64 a1) ∧ W.cell? ⟨n2, 1, none⟩ = some (.int .i64 a2) ∧ W.cell? ⟨n2, 2, none⟩ = some (.int .i64 a3) ∧ W.cell? ⟨n3, 0, none⟩ = some (.int .i64 b1) ∧ W.cell? ⟨n3, 1, none⟩ = some (.int .i64 b2) ∧ W.cell? ⟨n3, 2, none⟩ = some (.int .i64 b3))) (by kernel_rfl) ?_ (fun hHeld => ?_)
    · exact hS.out _ (Below.refl _ _).drew
    obtain ⟨y0, hy0⟩ : ∃ yy, yy = wz.drew := ⟨_, rfl⟩
    have Q0 := hid (show Pure wz y0 from by rw [hy0]; exact (Below.refl _ _).drew)
    rw [← hy0] at hHeld ⊢
    clear hy0
    refine tkA 0 ?_
    refine tkA 2 ?_
    refine wpAnyH_ready (rs := [1, 4, 5]) (by kernel_rfl) (by simp) ?_
    refine AllReadyH.cons rfl (fun K hK => ?_) ?_
    (try simp only [List.getElem_toArray, List.getElem_cons_succ, List.getElem_cons_zero])
    go_simp
    go_at_call 191; refine (ha.out _).mono ?_; rintro e y1 ⟨rfl, hp⟩; have Q1 := hid (Q0.out.then_ hp)
    refine hK.out _ _ ?_ (fun hHeld => ?_)
    · exact hS.out _ Q1.out
    clear hK K
    try simp only [Act.put, List.setIfInBounds_toArray, List.set_cons_zero, List.set_cons_succ, List.getElem_toArray, List.getElem_cons_succ, List.getElem_cons_zero]
    clear hp
    refine wpAnyH_ready (rs := [3, 4, 5]) (by kernel_rfl) (by simp) ?_
    refine AllReadyH.cons rfl (fun K hK => ?_) ?_
    (try simp only [List.getElem_toArray, List.getElem_cons_succ, List.getElem_cons_zero])
    go_simp
    go_at_call 191; refine (hb.out _).mono ?_; rintro e y2 ⟨rfl, hp⟩; have Q2 := hid (Q1.out.then_ hp)
    refine hK.out _ _ ?_ (fun hHeld => ?_)
    · exact hS.out _ Q2.out
    clear hK K
    try simp only [Act.put, List.setIfInBounds_toArray, List.set_cons_zero, List.set_cons_succ, List.getElem_toArray, List.getElem_cons_succ, List.getElem_cons_zero]
    clear hp
    refine wpAnyH_ready (rs := [4, 5]) (by kernel_rfl) (by simp) ?_
    refine AllReadyH.cons rfl (fun K hK => ?_) ?_
    (try simp only [List.getElem_toArray, List.getElem_cons_succ, List.getElem_cons_zero])
    go_simp
    refine hK.out _ _ ?_ (fun hHeld => ?_)
    · exact hS.out _ (Q2.out.then_ (alp3 _ _))
    clear hK K
    try simp only [Act.put, List.setIfInBounds_toArray, List.set_cons_zero, List.set_cons_succ, List.getElem_toArray, List.getElem_cons_succ, List.getElem_cons_zero]
    obtain ⟨y3, hy⟩ : ∃ yy, yy = y2.alloc (.cells #[.int .i64 0, .int .i64 0, .int .i64 0] 191) := ⟨_, rfl⟩
    rw [← hy] at hHeld ⊢
    have hp : Pure y2 y3 := by rw [hy]; exact alp3 _ _
    have Q3 := hid (Q2.out.then_ hp)
    have Z4 := hid (show BA3 y2.heap.size 0 0 0 y3 from by rw [hy]; exact block_alloc_new _ _)
    have No4 := hid (show wz.heap.size ≤ y2.heap.size from Q2.out.size)
    clear hp hy
    generalize y2.heap.size = n4 at *
    refine wpAnyH_ready (rs := [5]) (by kernel_rfl) (by simp) ?_
    refine AllReadyH.cons rfl (fun K hK => ?_) AllReadyH.nil
    (try simp only [List.getElem_toArray, List.getElem_cons_succ, List.getElem_cons_zero])
    go_simp
    refine hK.out _ _ ?_ (fun hHeld => ?_)
    · exact hS.out _ (Q3.out.then_ (alp3 _ _))
    clear hK K
    try simp only [Act.put, List.setIfInBounds_toArray, List.set_cons_zero, List.set_cons_succ, List.getElem_toArray, List.getElem_cons_succ, List.getElem_cons_zero]
    obtain ⟨y4, hy⟩ : ∃ yy, yy = y3.alloc (.cells #[.int .i64 0, .int .i64 0, .int .i64 0] 191) := ⟨_, rfl⟩
    rw [← hy] at hHeld ⊢
    have hp : Pure y3 y4 := by rw [hy]; exact alp3 _ _
    have Q4 := hid (Q3.out.then_ hp)
    have Z5 := hid (show BA3 y3.heap.size 0 0 0 y4 from by rw [hy]; exact block_alloc_new _ _)
    have No5 := hid (show wz.heap.size ≤ y3.heap.size from Q3.out.size)
    have Ne := hid (show n4 ≠ y3.heap.size from fun e => by have := lt_of_block Z4.out; omega)
    have Z4 := hid (Z4.out.pure hp)
    clear hp hy
    generalize y3.heap.size = n5 at *
    obtain ⟨q0, q1, q2, q3, q4, q5⟩ := Z4.out.cells
    refine wpAnyH_ready (rs := [6]) (by kernel_rfl) (by simp) ?_
    refine AllReadyH.cons rfl (fun K hK => ?_) AllReadyH.nil
    (try simp only [List.getElem_toArray, List.getElem_cons_succ, List.getElem_cons_zero])
    go_simp
    refine hK.out _ _ ?_ (fun hHeld => ?_)
    · exact hS.out _ (Below.setCell (Below.setCell (Below.setCell Q4.out No4.out _) No4.out _) No4.out _)
    clear hK K
    try simp only [Act.put, List.getElem_toArray, List.getElem_cons_succ, List.getElem_cons_zero]
    obtain ⟨y5, hy⟩ : ∃ yy, yy = (((y4.setCell ⟨n4, 0, none⟩ (.int .i64 la)).setCell ⟨n4, 1, none⟩ (.int .i64 a2)).setCell ⟨n4, 2, none⟩ (.int .i64 a3)) := ⟨_, rfl⟩
    rw [← hy] at hHeld ⊢
    have Q5 := hid (show Pure wz y5 from by rw [hy]; exact Below.setCell (Below.setCell (Below.setCell Q4.out No4.out _) No4.out _) No4.out _)
    have Z5 := hid (show BA3 n5 0 0 0 y5 from by rw [hy]; exact Z5.out.other Ne.out)
    have Z4 := hid (show BA3 n4 la a2 a3 y5 from by rw [hy]; exact Z4.out.put _ _ _)
    clear hy q0 q1 q2 q3 q4 q5
    obtain ⟨q0, q1, q2, q3, q4, q5⟩ := Z5.out.cells
    refine wpAnyH_ready (rs := [7]) (by kernel_rfl) (by simp) ?_
    refine AllReadyH.cons rfl (fun K hK => ?_) AllReadyH.nil
    (try simp only [List.getElem_toArray, List.getElem_cons_succ, List.getElem_cons_zero])
    go_simp
    refine hK.out _ _ ?_ (fun hHeld => ?_)
    · exact hS.out _ (Below.setCell (Below.setCell (Below.setCell Q5.out No5.out _) No5.out _) No5.out _)
    clear hK K
    try simp only [Act.put, List.getElem_toArray, List.getElem_cons_succ, List.getElem_cons_zero]
    obtain ⟨y6, hy⟩ : ∃ yy, yy = (((y5.setCell ⟨n5, 0, none⟩ (.int .i64 lb)).setCell ⟨n5, 1, none⟩ (.int .i64 b2)).setCell ⟨n5, 2, none⟩ (.int .i64 b3)) := ⟨_, rfl⟩
    rw [← hy] at hHeld ⊢
    have Q6 := hid (show Pure wz y6 from by rw [hy]; exact Below.setCell (Below.setCell (Below.setCell Q5.out No5.out _) No5.out _) No5.out _)
    have Z4 := hid (show BA3 n4 la a2 a3 y6 from by rw [hy]; exact Z4.out.other (fun e => Ne.out (Eq.symm e)))
    have Z5 := hid (show BA3 n5 lb b2 b3 y6 from by rw [hy]; exact Z5.out.put _ _ _)
    clear hy q0 q1 q2 q3 q4 q5
    refine wpAnyH_done (by kernel_rfl) ?_ _
    have QF := Q6
    rotate_left
    refine AllReadyH.cons rfl (fun K hK => ?_) AllReadyH.nil
    (try simp only [List.getElem_toArray, List.getElem_cons_succ, List.getElem_cons_zero])
    go_simp
    refine hK.out _ _ ?_ (fun hHeld => ?_)
    · exact hS.out _ (Q2.out.then_ (alp3 _ _))
    clear hK K
    try simp only [Act.put, List.setIfInBounds_toArray, List.set_cons_zero, List.set_cons_succ, List.getElem_toArray, List.getElem_cons_succ, List.getElem_cons_zero]
    obtain ⟨y3, hy⟩ : ∃ yy, yy = y2.alloc (.cells #[.int .i64 0, .int .i64 0, .int .i64 0] 191) := ⟨_, rfl⟩
    rw [← hy] at hHeld ⊢
    have hp : Pure y2 y3 := by rw [hy]; exact alp3 _ _
    have Q3 := hid (Q2.out.then_ hp)
    have Z5 := hid (show BA3 y2.heap.size 0 0 0 y3 from by rw [hy]; exact block_alloc_new _ _)
    have No5 := hid (show wz.heap.size ≤ y2.heap.size from Q2.out.size)
    clear hp hy
    generalize y2.heap.size = n5 at *
    refine wpAnyH_ready (rs := [4]) (by kernel_rfl) (by simp) ?_
    refine AllReadyH.cons rfl (fun K hK => ?_) AllReadyH.nil
    (try simp only [List.getElem_toArray, List.getElem_cons_succ, List.getElem_cons_zero])
    go_simp
    refine hK.out _ _ ?_ (fun hHeld => ?_)
    · exact hS.out _ (Q3.out.then_ (alp3 _ _))
    clear hK K
    try simp only [Act.put, List.setIfInBounds_toArray, List.set_cons_zero, List.set_cons_succ, List.getElem_toArray, List.getElem_cons_succ, List.getElem_cons_zero]
    obtain ⟨y4, hy⟩ : ∃ yy, yy = y3.alloc (.cells #[.int .i64 0, .int .i64 0, .int .i64 0] 191) := ⟨_, rfl⟩
    rw [← hy] at hHeld ⊢
    have hp : Pure y3 y4 := by rw [hy]; exact alp3 _ _
    have Q4 := hid (Q3.out.then_ hp)
    have Z4 := hid (show BA3 y3.heap.size 0 0 0 y4 from by rw [hy]; exact block_alloc_new _ _)
    have No4 := hid (show wz.heap.size ≤ y3.heap.size from Q3.out.size)
    have Ne := hid (show n5 ≠ y3.heap.size from fun e => by have := lt_of_block Z5.out; omega)
    have Z5 := hid (Z5.out.pure hp)
    clear hp hy
    generalize y3.heap.size = n4 at *
    have Ne := hid (fun e => Ne.out (Eq.symm e))
    obtain ⟨q0, q1, q2, q3, q4, q5⟩ := Z4.out.cells
    refine wpAnyH_ready (rs := [6]) (by kernel_rfl) (by simp) ?_
    refine AllReadyH.cons rfl (fun K hK => ?_) AllReadyH.nil
    (try simp only [List.getElem_toArray, List.getElem_cons_succ, List.getElem_cons_zero])
    go_simp
    refine hK.out _ _ ?_ (fun hHeld => ?_)
    · exact hS.out _ (Below.setCell (Below.setCell (Below.setCell Q4.out No4.out _) No4.out _) No4.out _)
    clear hK K
    try simp only [Act.put, List.getElem_toArray, List.getElem_cons_succ, List.getElem_cons_zero]
    obtain ⟨y5, hy⟩ : ∃ yy, yy = (((y4.setCell ⟨n4, 0, none⟩ (.int .i64 la)).setCell ⟨n4, 1, none⟩ (.int .i64 a2)).setCell ⟨n4, 2, none⟩ (.int .i64 a3)) := ⟨_, rfl⟩
    rw [← hy] at hHeld ⊢
    have Q5 := hid (show Pure wz y5 from by rw [hy]; exact Below.setCell (Below.setCell (Below.setCell Q4.out No4.out _) No4.out _) No4.out _)
    have Z5 := hid (show BA3 n5 0 0 0 y5 from by rw [hy]; exact Z5.out.other Ne.out)
    have Z4 := hid (show BA3 n4 la a2 a3 y5 from by rw [hy]; exact Z4.out.put _ _ _)
    clear hy q0 q1 q2 q3 q4 q5
    obtain ⟨q0, q1, q2, q3, q4, q5⟩ := Z5.out.cells
    refine wpAnyH_ready (rs := [7]) (by kernel_rfl) (by simp) ?_
    refine AllReadyH.cons rfl (fun K hK => ?_) AllReadyH.nil
    (try simp only [List.getElem_toArray, List.getElem_cons_succ, List.getElem_cons_zero])
    go_simp
    refine hK.out _ _ ?_ (fun hHeld => ?_)
    · exact hS.out _ (Below.setCell (Below.setCell (Below.setCell Q5.out No5.out _) No5.out _) No5.out _)
    clear hK K
    try simp only [Act.put, List.getElem_toArray, List.getElem_cons_succ, List.getElem_cons_zero]
    obtain ⟨y6, hy⟩ : ∃ yy, yy = (((y5.setCell ⟨n5, 0, none⟩ (.int .i64 lb)).setCell ⟨n5, 1, none⟩ (.int .i64 b2)).setCell ⟨n5, 2, none⟩ (.int .i64 b3)) := ⟨_, rfl⟩
    rw [← hy] at hHeld ⊢
    have Q6 := hid (show Pure wz y6 from by rw [hy]; exact Below.setCell (Below.setCell (Below.setCell Q5.out No5.out _) No5.out _) No5.out _)
    have Z4 := hid (show BA3 n4 la a2 a3 y6 from by rw [hy]; exact Z4.out.other (fun e => Ne.out (Eq.symm e)))
    have Z5 := hid (show BA3 n5 lb b2 b3 y6 from by rw [hy]; exact Z5.out.put _ _ _)
    clear hy q0 q1 q2 q3 q4 q5
    refine wpAnyH_done (by kernel_rfl) ?_ _
    have QF := Q6
    rotate_left
    refine AllReadyH.cons rfl (fun K hK => ?_) ?_
    (try simp only [List.getElem_toArray, List.getElem_cons_succ, List.getElem_cons_zero])
    go_simp
    refine hK.out _ _ ?_ (fun hHeld => ?_)
    · exact hS.out _ (Q1.out.then_ (alp3 _ _))
    clear hK K
    try simp only [Act.put, List.setIfInBounds_toArray, List.set_cons_zero, List.set_cons_succ, List.getElem_toArray, List.getElem_cons_succ, List.getElem_cons_zero]
    obtain ⟨y2, hy⟩ : ∃ yy, yy = y1.alloc (.cells #[.int .i64 0, .int .i64 0, .int .i64 0] 191) := ⟨_, rfl⟩
    rw [← hy] at hHeld ⊢
    have hp : Pure y1 y2 := by rw [hy]; exact alp3 _ _
    have Q2 := hid (Q1.out.then_ hp)
    have Z4 := hid (show BA3 y1.heap.size 0 0 0 y2 from by rw [hy]; exact block_alloc_new _ _)
    have No4 := hid (show wz.heap.size ≤ y1.heap.size from Q1.out.size)
    clear hp hy
    generalize y1.heap.size = n4 at *
    refine wpAnyH_ready (rs := [3, 5]) (by kernel_rfl) (by simp) ?_
    refine AllReadyH.cons rfl (fun K hK => ?_) ?_
    (try simp only [List.getElem_toArray, List.getElem_cons_succ, List.getElem_cons_zero])
    go_simp
    go_at_call 191; refine (hb.out _).mono ?_; rintro e y3 ⟨rfl, hp⟩; have Q3 := hid (Q2.out.then_ hp)
    refine hK.out _ _ ?_ (fun hHeld => ?_)
    · exact hS.out _ Q3.out
    clear hK K
    try simp only [Act.put, List.setIfInBounds_toArray, List.set_cons_zero, List.set_cons_succ, List.getElem_toArray, List.getElem_cons_succ, List.getElem_cons_zero]
    have Z4 := hid (Z4.out.pure hp)
    clear hp
    refine wpAnyH_ready (rs := [5]) (by kernel_rfl) (by simp) ?_
    refine AllReadyH.cons rfl (fun K hK => ?_) AllReadyH.nil
    (try simp only [List.getElem_toArray, List.getElem_cons_succ, List.getElem_cons_zero])
    go_simp
    refine hK.out _ _ ?_ (fun hHeld => ?_)
    · exact hS.out _ (Q3.out.then_ (alp3 _ _))
    clear hK K
    try simp only [Act.put, List.setIfInBounds_toArray, List.set_cons_zero, List.set_cons_succ, List.getElem_toArray, List.getElem_cons_succ, List.getElem_cons_zero]
    obtain ⟨y4, hy⟩ : ∃ yy, yy = y3.alloc (.cells #[.int .i64 0, .int .i64 0, .int .i64 0] 191) := ⟨_, rfl⟩
    rw [← hy] at hHeld ⊢
    have hp : Pure y3 y4 := by rw [hy]; exact alp3 _ _
    have Q4 := hid (Q3.out.then_ hp)
    have Z5 := hid (show BA3 y3.heap.size 0 0 0 y4 from by rw [hy]; exact block_alloc_new _ _)
    have No5 := hid (show wz.heap.size ≤ y3.heap.size from Q3.out.size)
    have Ne := hid (show n4 ≠ y3.heap.size from fun e => by have := lt_of_block Z4.out; omega)
    have Z4 := hid (Z4.out.pure hp)
    clear hp hy
    generalize y3.heap.size = n5 at *
    obtain ⟨q0, q1, q2, q3, q4, q5⟩ := Z4.out.cells
    refine wpAnyH_ready (rs := [6]) (by kernel_rfl) (by simp) ?_
    refine AllReadyH.cons rfl (fun K hK => ?_) AllReadyH.nil
    (try simp only [List.getElem_toArray, List.getElem_cons_succ, List.getElem_cons_zero])
    go_simp
    refine hK.out _ _ ?_ (fun hHeld => ?_)
    · exact hS.out _ (Below.setCell (Below.setCell (Below.setCell Q4.out No4.out _) No4.out _) No4.out _)
    clear hK K
    try simp only [Act.put, List.getElem_toArray, List.getElem_cons_succ, List.getElem_cons_zero]
    obtain ⟨y5, hy⟩ : ∃ yy, yy = (((y4.setCell ⟨n4, 0, none⟩ (.int .i64 la)).setCell ⟨n4, 1, none⟩ (.int .i64 a2)).setCell ⟨n4, 2, none⟩ (.int .i64 a3)) := ⟨_, rfl⟩
    rw [← hy] at hHeld ⊢
    have Q5 := hid (show Pure wz y5 from by rw [hy]; exact Below.setCell (Below.setCell (Below.setCell Q4.out No4.out _) No4.out _) No4.out _)
    have Z5 := hid (show BA3 n5 0 0 0 y5 from by rw [hy]; exact Z5.out.other Ne.out)
    have Z4 := hid (show BA3 n4 la a2 a3 y5 from by rw [hy]; exact Z4.out.put _ _ _)
    clear hy q0 q1 q2 q3 q4 q5
    obtain ⟨q0, q1, q2, q3, q4, q5⟩ := Z5.out.cells
    refine wpAnyH_ready (rs := [7]) (by kernel_rfl) (by simp) ?_
    refine AllReadyH.cons rfl (fun K hK => ?_) AllReadyH.nil
    (try simp only [List.getElem_toArray, List.getElem_cons_succ, List.getElem_cons_zero])
    go_simp
    refine hK.out _ _ ?_ (fun hHeld => ?_)
    · exact hS.out _ (Below.setCell (Below.setCell (Below.setCell Q5.out No5.out _) No5.out _) No5.out _)
    clear hK K
    try simp only [Act.put, List.getElem_toArray, List.getElem_cons_succ, List.getElem_cons_zero]
    obtain ⟨y6, hy⟩ : ∃ yy, yy = (((y5.setCell ⟨n5, 0, none⟩ (.int .i64 lb)).setCell ⟨n5, 1, none⟩ (.int .i64 b2)).setCell ⟨n5, 2, none⟩ (.int .i64 b3)) := ⟨_, rfl⟩
    rw [← hy] at hHeld ⊢
    have Q6 := hid (show Pure wz y6 from by rw [hy]; exact Below.setCell (Below.setCell (Below.setCell Q5.out No5.out _) No5.out _) No5.out _)
    have Z4 := hid (show BA3 n4 la a2 a3 y6 from by rw [hy]; exact Z4.out.other (fun e => Ne.out (Eq.symm e)))
    have Z5 := hid (show BA3 n5 lb b2 b3 y6 from by rw [hy]; exact Z5.out.put _ _ _)
    clear hy q0 q1 q2 q3 q4 q5
    refine wpAnyH_done (by kernel_rfl) ?_ _
    have QF := Q6
    rotate_left
    refine AllReadyH.cons rfl (fun K hK => ?_) AllReadyH.nil
    (try simp only [List.getElem_toArray, List.getElem_cons_succ, List.getElem_cons_zero])
    go_simp
    refine hK.out _ _ ?_ (fun hHeld => ?_)
    · exact hS.out _ (Q2.out.then_ (alp3 _ _))
    clear hK K
    try simp only [Act.put, List.setIfInBounds_toArray, List.set_cons_zero, List.set_cons_succ, List.getElem_toArray, List.getElem_cons_succ, List.getElem_cons_zero]
    obtain ⟨y3, hy⟩ : ∃ yy, yy = y2.alloc (.cells #[.int .i64 0, .int .i64 0, .int .i64 0] 191) := ⟨_, rfl⟩
    rw [← hy] at hHeld ⊢
    have hp : Pure y2 y3 := by rw [hy]; exact alp3 _ _
    have Q3 := hid (Q2.out.then_ hp)
    have Z5 := hid (show BA3 y2.heap.size 0 0 0 y3 from by rw [hy]; exact block_alloc_new _ _)
    have No5 := hid (show wz.heap.size ≤ y2.heap.size from Q2.out.size)
    have Ne := hid (show n4 ≠ y2.heap.size from fun e => by have := lt_of_block Z4.out; omega)
    have Z4 := hid (Z4.out.pure hp)
    clear hp hy
    generalize y2.heap.size = n5 at *
    refine wpAnyH_ready (rs := [3]) (by kernel_rfl) (by simp) ?_
    refine AllReadyH.cons rfl (fun K hK => ?_) AllReadyH.nil
    (try simp only [List.getElem_toArray, List.getElem_cons_succ, List.getElem_cons_zero])
    go_simp
    go_at_call 191; refine (hb.out _).mono ?_; rintro e y4 ⟨rfl, hp⟩; have Q4 := hid (Q3.out.then_ hp)
    refine hK.out _ _ ?_ (fun hHeld => ?_)
    · exact hS.out _ Q4.out
    clear hK K
    try simp only [Act.put, List.setIfInBounds_toArray, List.set_cons_zero, List.set_cons_succ, List.getElem_toArray, List.getElem_cons_succ, List.getElem_cons_zero]
    have Z4 := hid (Z4.out.pure hp)
    have Z5 := hid (Z5.out.pure hp)
    clear hp
    obtain ⟨q0, q1, q2, q3, q4, q5⟩ := Z4.out.cells
    refine wpAnyH_ready (rs := [6]) (by kernel_rfl) (by simp) ?_
    refine AllReadyH.cons rfl (fun K hK => ?_) AllReadyH.nil
    (try simp only [List.getElem_toArray, List.getElem_cons_succ, List.getElem_cons_zero])
    go_simp
    refine hK.out _ _ ?_ (fun hHeld => ?_)
    · exact hS.out _ (Below.setCell (Below.setCell (Below.setCell Q4.out No4.out _) No4.out _) No4.out _)
    clear hK K
    try simp only [Act.put, List.getElem_toArray, List.getElem_cons_succ, List.getElem_cons_zero]
    obtain ⟨y5, hy⟩ : ∃ yy, yy = (((y4.setCell ⟨n4, 0, none⟩ (.int .i64 la)).setCell ⟨n4, 1, none⟩ (.int .i64 a2)).setCell ⟨n4, 2, none⟩ (.int .i64 a3)) := ⟨_, rfl⟩
    rw [← hy] at hHeld ⊢
    have Q5 := hid (show Pure wz y5 from by rw [hy]; exact Below.setCell (Below.setCell (Below.setCell Q4.out No4.out _) No4.out _) No4.out _)
    have Z5 := hid (show BA3 n5 0 0 0 y5 from by rw [hy]; exact Z5.out.other Ne.out)
    have Z4 := hid (show BA3 n4 la a2 a3 y5 from by rw [hy]; exact Z4.out.put _ _ _)
    clear hy q0 q1 q2 q3 q4 q5
    obtain ⟨q0, q1, q2, q3, q4, q5⟩ := Z5.out.cells
    refine wpAnyH_ready (rs := [7]) (by kernel_rfl) (by simp) ?_
    refine AllReadyH.cons rfl (fun K hK => ?_) AllReadyH.nil
    (try simp only [List.getElem_toArray, List.getElem_cons_succ, List.getElem_cons_zero])
    go_simp
    refine hK.out _ _ ?_ (fun hHeld => ?_)
    · exact hS.out _ (Below.setCell (Below.setCell (Below.setCell Q5.out No5.out _) No5.out _) No5.out _)
    clear hK K
    try simp only [Act.put, List.getElem_toArray, List.getElem_cons_succ, List.getElem_cons_zero]
    obtain ⟨y6, hy⟩ : ∃ yy, yy = (((y5.setCell ⟨n5, 0, none⟩ (.int .i64 lb)).setCell ⟨n5, 1, none⟩ (.int .i64 b2)).setCell ⟨n5, 2, none⟩ (.int .i64 b3)) := ⟨_, rfl⟩
    rw [← hy] at hHeld ⊢
    have Q6 := hid (show Pure wz y6 from by rw [hy]; exact Below.setCell (Below.setCell (Below.setCell Q5.out No5.out _) No5.out _) No5.out _)
    have Z4 := hid (show BA3 n4 la a2 a3 y6 from by rw [hy]; exact Z4.out.other (fun e => Ne.out (Eq.symm e)))
    have Z5 := hid (show BA3 n5 lb b2 b3 y6 from by rw [hy]; exact Z5.out.put _ _ _)
    clear hy q0 q1 q2 q3 q4 q5
    refine wpAnyH_done (by kernel_rfl) ?_ _
    have QF := Q6
    rotate_left
    refine AllReadyH.cons rfl (fun K hK => ?_) AllReadyH.nil
    (try simp only [List.getElem_toArray, List.getElem_cons_succ, List.getElem_cons_zero])
    go_simp
    refine hK.out _ _ ?_ (fun hHeld => ?_)
    · exact hS.out _ (Q1.out.then_ (alp3 _ _))
    clear hK K
    try simp only [Act.put, List.setIfInBounds_toArray, List.set_cons_zero, List.set_cons_succ, List.getElem_toArray, List.getElem_cons_succ, List.getElem_cons_zero]
    obtain ⟨y2, hy⟩ : ∃ yy, yy = y1.alloc (.cells #[.int .i64 0, .int .i64 0, .int .i64 0] 191) := ⟨_, rfl⟩
    rw [← hy] at hHeld ⊢
    have hp : Pure y1 y2 := by rw [hy]; exact alp3 _ _
    have Q2 := hid (Q1.out.then_ hp)
    have Z5 := hid (show BA3 y1.heap.size 0 0 0 y2 from by rw [hy]; exact block_alloc_new _ _)
    have No5 := hid (show wz.heap.size ≤ y1.heap.size from Q1.out.size)
    clear hp hy
    generalize y1.heap.size = n5 at *
    refine wpAnyH_ready (rs := [3, 4]) (by kernel_rfl) (by simp) ?_
    refine AllReadyH.cons rfl (fun K hK => ?_) ?_
    (try simp only [List.getElem_toArray, List.getElem_cons_succ, List.getElem_cons_zero])
    go_simp
    go_at_call 191; refine (hb.out _).mono ?_; rintro e y3 ⟨rfl, hp⟩; have Q3 := hid (Q2.out.then_ hp)
    refine hK.out _ _ ?_ (fun hHeld => ?_)
    · exact hS.out _ Q3.out
    clear hK K
    try simp only [Act.put, List.setIfInBounds_toArray, List.set_cons_zero, List.set_cons_succ, List.getElem_toArray, List.getElem_cons_succ, List.getElem_cons_zero]
    have Z5 := hid (Z5.out.pure hp)
    clear hp
    refine wpAnyH_ready (rs := [4]) (by kernel_rfl) (by simp) ?_
    refine AllReadyH.cons rfl (fun K hK => ?_) AllReadyH.nil
    (try simp only [List.getElem_toArray, List.getElem_cons_succ, List.getElem_cons_zero])
    go_simp
    refine hK.out _ _ ?_ (fun hHeld => ?_)
    · exact hS.out _ (Q3.out.then_ (alp3 _ _))
    clear hK K
    try simp only [Act.put, List.setIfInBounds_toArray, List.set_cons_zero, List.set_cons_succ, List.getElem_toArray, List.getElem_cons_succ, List.getElem_cons_zero]
    obtain ⟨y4, hy⟩ : ∃ yy, yy = y3.alloc (.cells #[.int .i64 0, .int .i64 0, .int .i64 0] 191) := ⟨_, rfl⟩
    rw [← hy] at hHeld ⊢
    have hp : Pure y3 y4 := by rw [hy]; exact alp3 _ _
    have Q4 := hid (Q3.out.then_ hp)
    have Z4 := hid (show BA3 y3.heap.size 0 0 0 y4 from by rw [hy]; exact block_alloc_new _ _)
    have No4 := hid (show wz.heap.size ≤ y3.heap.size from Q3.out.size)
    have Ne := hid (show n5 ≠ y3.heap.size from fun e => by have := lt_of_block Z5.out; omega)
    have Z5 := hid (Z5.out.pure hp)
    clear hp hy
    generalize y3.heap.size = n4 at *
    have Ne := hid (fun e => Ne.out (Eq.symm e))
    obtain ⟨q0, q1, q2, q3, q4, q5⟩ := Z4.out.cells
    refine wpAnyH_ready (rs := [6]) (by kernel_rfl) (by simp) ?_
    refine AllReadyH.cons rfl (fun K hK => ?_) AllReadyH.nil
    (try simp only [List.getElem_toArray, List.getElem_cons_succ, List.getElem_cons_zero])
    go_simp
    refine hK.out _ _ ?_ (fun hHeld => ?_)
    · exact hS.out _ (Below.setCell (Below.setCell (Below.setCell Q4.out No4.out _) No4.out _) No4.out _)
    clear hK K
    try simp only [Act.put, List.getElem_toArray, List.getElem_cons_succ, List.getElem_cons_zero]
    obtain ⟨y5, hy⟩ : ∃ yy, yy = (((y4.setCell ⟨n4, 0, none⟩ (.int .i64 la)).setCell ⟨n4, 1, none⟩ (.int .i64 a2)).setCell ⟨n4, 2, none⟩ (.int .i64 a3)) := ⟨_, rfl⟩
    rw [← hy] at hHeld ⊢
    have Q5 := hid (show Pure wz y5 from by rw [hy]; exact Below.setCell (Below.setCell (Below.setCell Q4.out No4.out _) No4.out _) No4.out _)
    have Z5 := hid (show BA3 n5 0 0 0 y5 from by rw [hy]; exact Z5.out.other Ne.out)
    have Z4 := hid (show BA3 n4 la a2 a3 y5 from by rw [hy]; exact Z4.out.put _ _ _)
    clear hy q0 q1 q2 q3 q4 q5
    obtain ⟨q0, q1, q2, q3, q4, q5⟩ := Z5.out.cells
    refine wpAnyH_ready (rs := [7]) (by kernel_rfl) (by simp) ?_
    refine AllReadyH.cons rfl (fun K hK => ?_) AllReadyH.nil
    (try simp only [List.getElem_toArray, List.getElem_cons_succ, List.getElem_cons_zero])
    go_simp
    refine hK.out _ _ ?_ (fun hHeld => ?_)
    · exact hS.out _ (Below.setCell (Below.setCell (Below.setCell Q5.out No5.out _) No5.out _) No5.out _)
    clear hK K
    try simp only [Act.put, List.getElem_toArray, List.getElem_cons_succ, List.getElem_cons_zero]
    obtain ⟨y6, hy⟩ : ∃ yy, yy = (((y5.setCell ⟨n5, 0, none⟩ (.int .i64 lb)).setCell ⟨n5, 1, none⟩ (.int .i64 b2)).setCell ⟨n5, 2, none⟩ (.int .i64 b3)) := ⟨_, rfl⟩
    rw [← hy] at hHeld ⊢
    have Q6 := hid (show Pure wz y6 from by rw [hy]; exact Below.setCell (Below.setCell (Below.setCell Q5.out No5.out _) No5.out _) No5.out _)
    have Z4 := hid (show BA3 n4 la a2 a3 y6 from by rw [hy]; exact Z4.out.other (fun e => Ne.out (Eq.symm e)))
    have Z5 := hid (show BA3 n5 lb b2 b3 y6 from by rw [hy]; exact Z5.out.put _ _ _)
    clear hy q0 q1 q2 q3 q4 q5
    refine wpAnyH_done (by kernel_rfl) ?_ _
    have QF := Q6
    rotate_left
    refine AllReadyH.cons rfl (fun K hK => ?_) AllReadyH.nil
    (try simp only [List.getElem_toArray, List.getElem_cons_succ, List.getElem_cons_zero])
    go_simp
    refine hK.out _ _ ?_ (fun hHeld => ?_)
    · exact hS.out _ (Q2.out.then_ (alp3 _ _))
    clear hK K
    try simp only [Act.put, List.setIfInBounds_toArray, List.set_cons_zero, List.set_cons_succ, List.getElem_toArray, List.getElem_cons_succ, List.getElem_cons_zero]
    obtain ⟨y3, hy⟩ : ∃ yy, yy = y2.alloc (.cells #[.int .i64 0, .int .i64 0, .int .i64 0] 191) := ⟨_, rfl⟩
    rw [← hy] at hHeld ⊢
    have hp : Pure y2 y3 := by rw [hy]; exact alp3 _ _
    have Q3 := hid (Q2.out.then_ hp)
    have Z4 := hid (show BA3 y2.heap.size 0 0 0 y3 from by rw [hy]; exact block_alloc_new _ _)
    have No4 := hid (show wz.heap.size ≤ y2.heap.size from Q2.out.size)
    have Ne := hid (show n5 ≠ y2.heap.size from fun e => by have := lt_of_block Z5.out; omega)
    have Z5 := hid (Z5.out.pure hp)
    clear hp hy
    generalize y2.heap.size = n4 at *
    have Ne := hid (fun e => Ne.out (Eq.symm e))
    refine wpAnyH_ready (rs := [3]) (by kernel_rfl) (by simp) ?_
    refine AllReadyH.cons rfl (fun K hK => ?_) AllReadyH.nil
    (try simp only [List.getElem_toArray, List.getElem_cons_succ, List.getElem_cons_zero])
    go_simp
    go_at_call 191; refine (hb.out _).mono ?_; rintro e y4 ⟨rfl, hp⟩; have Q4 := hid (Q3.out.then_ hp)
    refine hK.out _ _ ?_ (fun hHeld => ?_)
    · exact hS.out _ Q4.out
    clear hK K
    try simp only [Act.put, List.setIfInBounds_toArray, List.set_cons_zero, List.set_cons_succ, List.getElem_toArray, List.getElem_cons_succ, List.getElem_cons_zero]
    have Z4 := hid (Z4.out.pure hp)
    have Z5 := hid (Z5.out.pure hp)
    clear hp
    obtain ⟨q0, q1, q2, q3, q4, q5⟩ := Z4.out.cells
    refine wpAnyH_ready (rs := [6]) (by kernel_rfl) (by simp) ?_
    refine AllReadyH.cons rfl (fun K hK => ?_) AllReadyH.nil
    (try simp only [List.getElem_toArray, List.getElem_cons_succ, List.getElem_cons_zero])
    go_simp
    refine hK.out _ _ ?_ (fun hHeld => ?_)
    · exact hS.out _ (Below.setCell (Below.setCell (Below.setCell Q4.out No4.out _) No4.out _) No4.out _)
    clear hK K
    try simp only [Act.put, List.getElem_toArray, List.getElem_cons_succ, List.getElem_cons_zero]
    obtain ⟨y5, hy⟩ : ∃ yy, yy = (((y4.setCell ⟨n4, 0, none⟩ (.int .i64 la)).setCell ⟨n4, 1, none⟩ (.int .i64 a2)).setCell ⟨n4, 2, none⟩ (.int .i64 a3)) := ⟨_, rfl⟩
    rw [← hy] at hHeld ⊢
    have Q5 := hid (show Pure wz y5 from by rw [hy]; exact Below.setCell (Below.setCell (Below.setCell Q4.out No4.out _) No4.out _) No4.out _)
    have Z5 := hid (show BA3 n5 0 0 0 y5 from by rw [hy]; exact Z5.out.other Ne.out)
    have Z4 := hid (show BA3 n4 la a2 a3 y5 from by rw [hy]; exact Z4.out.put _ _ _)
    clear hy q0 q1 q2 q3 q4 q5
    obtain ⟨q0, q1, q2, q3, q4, q5⟩ := Z5.out.cells
    refine wpAnyH_ready (rs := [7]) (by kernel_rfl) (by simp) ?_
    refine AllReadyH.cons rfl (fun K hK => ?_) AllReadyH.nil
    (try simp only [List.getElem_toArray, List.getElem_cons_succ, List.getElem_cons_zero])
    go_simp
    refine hK.out _ _ ?_ (fun hHeld => ?_)
    · exact hS.out _ (Below.setCell (Below.setCell (Below.setCell Q5.out No5.out _) No5.out _) No5.out _)
    clear hK K
    try simp only [Act.put, List.getElem_toArray, List.getElem_cons_succ, List.getElem_cons_zero]
    obtain ⟨y6, hy⟩ : ∃ yy, yy = (((y5.setCell ⟨n5, 0, none⟩ (.int .i64 lb)).setCell ⟨n5, 1, none⟩ (.int .i64 b2)).setCell ⟨n5, 2, none⟩ (.int .i64 b3)) := ⟨_, rfl⟩
    rw [← hy] at hHeld ⊢
    have Q6 := hid (show Pure wz y6 from by rw [hy]; exact Below.setCell (Below.setCell (Below.setCell Q5.out No5.out _) No5.out _) No5.out _)
    have Z4 := hid (show BA3 n4 la a2 a3 y6 from by rw [hy]; exact Z4.out.other (fun e => Ne.out (Eq.symm e)))
    have Z5 := hid (show BA3 n5 lb b2 b3 y6 from by rw [hy]; exact Z5.out.put _ _ _)
    clear hy q0 q1 q2 q3 q4 q5
    refine wpAnyH_done (by kernel_rfl) ?_ _
    have QF := Q6
    rotate_left
    refine AllReadyH.cons rfl (fun K hK => ?_) ?_
    (try simp only [List.getElem_toArray, List.getElem_cons_succ, List.getElem_cons_zero])
    go_simp
    refine hK.out _ _ ?_ (fun hHeld => ?_)
    · exact hS.out _ (Q0.out.then_ (alp3 _ _))
    clear hK K
    try simp only [Act.put, List.setIfInBounds_toArray, List.set_cons_zero, List.set_cons_succ, List.getElem_toArray, List.getElem_cons_succ, List.getElem_cons_zero]
    obtain ⟨y1, hy⟩ : ∃ yy, yy = y0.alloc (.cells #[.int .i64 0, .int .i64 0, .int .i64 0] 191) := ⟨_, rfl⟩
    rw [← hy] at hHeld ⊢
    have hp : Pure y0 y1 := by rw [hy]; exact alp3 _ _
    have Q1 := hid (Q0.out.then_ hp)
    have Z4 := hid (show BA3 y0.heap.size 0 0 0 y1 from by rw [hy]; exact block_alloc_new _ _)
    have No4 := hid (show wz.heap.size ≤ y0.heap.size from Q0.out.size)
    clear hp hy
    generalize y0.heap.size = n4 at *
    refine wpAnyH_ready (rs := [1, 5]) (by kernel_rfl) (by simp) ?_
    refine AllReadyH.cons rfl (fun K hK => ?_) ?_
    (try simp only [List.getElem_toArray, List.getElem_cons_succ, List.getElem_cons_zero])
    go_simp
    go_at_call 191; refine (ha.out _).mono ?_; rintro e y2 ⟨rfl, hp⟩; have Q2 := hid (Q1.out.then_ hp)
    refine hK.out _ _ ?_ (fun hHeld => ?_)
    · exact hS.out _ Q2.out
    clear hK K
    try simp only [Act.put, List.setIfInBounds_toArray, List.set_cons_zero, List.set_cons_succ, List.getElem_toArray, List.getElem_cons_succ, List.getElem_cons_zero]
    have Z4 := hid (Z4.out.pure hp)
    clear hp
    refine wpAnyH_ready (rs := [3, 5]) (by kernel_rfl) (by simp) ?_
    refine AllReadyH.cons rfl (fun K hK => ?_) ?_
    (try simp only [List.getElem_toArray, List.getElem_cons_succ, List.getElem_cons_zero])
    go_simp
    go_at_call 191; refine (hb.out _).mono ?_; rintro e y3 ⟨rfl, hp⟩; have Q3 := hid (Q2.out.then_ hp)
    refine hK.out _ _ ?_ (fun hHeld => ?_)
    · exact hS.out _ Q3.out
    clear hK K
    try simp only [Act.put, List.setIfInBounds_toArray, List.set_cons_zero, List.set_cons_succ, List.getElem_toArray, List.getElem_cons_succ, List.getElem_cons_zero]
    have Z4 := hid (Z4.out.pure hp)
    clear hp
    refine wpAnyH_ready (rs := [5]) (by kernel_rfl) (by simp) ?_
    refine AllReadyH.cons rfl (fun K hK => ?_) AllReadyH.nil
    (try simp only [List.getElem_toArray, List.getElem_cons_succ, List.getElem_cons_zero])
    go_simp
    refine hK.out _ _ ?_ (fun hHeld => ?_)
    · exact hS.out _ (Q3.out.then_ (alp3 _ _))
    clear hK K
    try simp only [Act.put, List.setIfInBounds_toArray, List.set_cons_zero, List.set_cons_succ, List.getElem_toArray, List.getElem_cons_succ, List.getElem_cons_zero]
    obtain ⟨y4, hy⟩ : ∃ yy, yy = y3.alloc (.cells #[.int .i64 0, .int .i64 0, .int .i64 0] 191) := ⟨_, rfl⟩
    rw [← hy] at hHeld ⊢
    have hp : Pure y3 y4 := by rw [hy]; exact alp3 _ _
    have Q4 := hid (Q3.out.then_ hp)
    have Z5 := hid (show BA3 y3.heap.size 0 0 0 y4 from by rw [hy]; exact block_alloc_new _ _)
    have No5 := hid (show wz.heap.size ≤ y3.heap.size from Q3.out.size)
    have Ne := hid (show n4 ≠ y3.heap.size from fun e => by have := lt_of_block Z4.out; omega)
    have Z4 := hid (Z4.out.pure hp)
    clear hp hy
    generalize y3.heap.size = n5 at *
    obtain ⟨q0, q1, q2, q3, q4, q5⟩ := Z4.out.cells
    refine wpAnyH_ready (rs := [6]) (by kernel_rfl) (by simp) ?_
    refine AllReadyH.cons rfl (fun K hK => ?_) AllReadyH.nil
    (try simp only [List.getElem_toArray, List.getElem_cons_succ, List.getElem_cons_zero])
    go_simp
    refine hK.out _ _ ?_ (fun hHeld => ?_)
    · exact hS.out _ (Below.setCell (Below.setCell (Below.setCell Q4.out No4.out _) No4.out _) No4.out _)
    clear hK K
    try simp only [Act.put, List.getElem_toArray, List.getElem_cons_succ, List.getElem_cons_zero]
    obtain ⟨y5, hy⟩ : ∃ yy, yy = (((y4.setCell ⟨n4, 0, none⟩ (.int .i64 la)).setCell ⟨n4, 1, none⟩ (.int .i64 a2)).setCell ⟨n4, 2, none⟩ (.int .i64 a3)) := ⟨_, rfl⟩
    rw [← hy] at hHeld ⊢
    have Q5 := hid (show Pure wz y5 from by rw [hy]; exact Below.setCell (Below.setCell (Below.setCell Q4.out No4.out _) No4.out _) No4.out _)
    have Z5 := hid (show BA3 n5 0 0 0 y5 from by rw [hy]; exact Z5.out.other Ne.out)
    have Z4 := hid (show BA3 n4 la a2 a3 y5 from by rw [hy]; exact Z4.out.put _ _ _)
    clear hy q0 q1 q2 q3 q4 q5
    obtain ⟨q0, q1, q2, q3, q4, q5⟩ := Z5.out.cells
    refine wpAnyH_ready (rs := [7]) (by kernel_rfl) (by simp) ?_
    refine AllReadyH.cons rfl (fun K hK => ?_) AllReadyH.nil
    (try simp only [List.getElem_toArray, List.getElem_cons_succ, List.getElem_cons_zero])
    go_simp
    refine hK.out _ _ ?_ (fun hHeld => ?_)
    · exact hS.out _ (Below.setCell (Below.setCell (Below.setCell Q5.out No5.out _) No5.out _) No5.out _)
    clear hK K
    try simp only [Act.put, List.getElem_toArray, List.getElem_cons_succ, List.getElem_cons_zero]
    obtain ⟨y6, hy⟩ : ∃ yy, yy = (((y5.setCell ⟨n5, 0, none⟩ (.int .i64 lb)).setCell ⟨n5, 1, none⟩ (.int .i64 b2)).setCell ⟨n5, 2, none⟩ (.int .i64 b3)) := ⟨_, rfl⟩
    rw [← hy] at hHeld ⊢
    have Q6 := hid (show Pure wz y6 from by rw [hy]; exact Below.setCell (Below.setCell (Below.setCell Q5.out No5.out _) No5.out _) No5.out _)
    have Z4 := hid (show BA3 n4 la a2 a3 y6 from by rw [hy]; exact Z4.out.other (fun e => Ne.out (Eq.symm e)))
    have Z5 := hid (show BA3 n5 lb b2 b3 y6 from by rw [hy]; exact Z5.out.put _ _ _)
    clear hy q0 q1 q2 q3 q4 q5
    refine wpAnyH_done (by kernel_rfl) ?_ _
    have QF := Q6
    rotate_left
    refine AllReadyH.cons rfl (fun K hK => ?_) AllReadyH.nil
    (try simp only [List.getElem_toArray, List.getElem_cons_succ, List.getElem_cons_zero])
    go_simp
    refine hK.out _ _ ?_ (fun hHeld => ?_)
    · exact hS.out _ (Q2.out.then_ (alp3 _ _))
    clear hK K
    try simp only [Act.put, List.setIfInBounds_toArray, List.set_cons_zero, List.set_cons_succ, List.getElem_toArray, List.getElem_cons_succ, List.getElem_cons_zero]
    obtain ⟨y3, hy⟩ : ∃ yy, yy = y2.alloc (.cells #[.int .i64 0, .int .i64 0, .int .i64 0] 191) := ⟨_, rfl⟩
    rw [← hy] at hHeld ⊢
    have hp : Pure y2 y3 := by rw [hy]; exact alp3 _ _
    have Q3 := hid (Q2.out.then_ hp)
    have Z5 := hid (show BA3 y2.heap.size 0 0 0 y3 from by rw [hy]; exact block_alloc_new _ _)
    have No5 := hid (show wz.heap.size ≤ y2.heap.size from Q2.out.size)
    have Ne := hid (show n4 ≠ y2.heap.size from fun e => by have := lt_of_block Z4.out; omega)
    have Z4 := hid (Z4.out.pure hp)
    clear hp hy
    generalize y2.heap.size = n5 at *
    refine wpAnyH_ready (rs := [3]) (by kernel_rfl) (by simp) ?_
    refine AllReadyH.cons rfl (fun K hK => ?_) AllReadyH.nil
    (try simp only [List.getElem_toArray, List.getElem_cons_succ, List.getElem_cons_zero])
    go_simp
    go_at_call 191; refine (hb.out _).mono ?_; rintro e y4 ⟨rfl, hp⟩; have Q4 := hid (Q3.out.then_ hp)
    refine hK.out _ _ ?_ (fun hHeld => ?_)
    · exact hS.out _ Q4.out
    clear hK K
    try simp only [Act.put, List.setIfInBounds_toArray, List.set_cons_zero, List.set_cons_succ, List.getElem_toArray, List.getElem_cons_succ, List.getElem_cons_zero]
    have Z4 := hid (Z4.out.pure hp)
    have Z5 := hid (Z5.out.pure hp)
    clear hp
    obtain ⟨q0, q1, q2, q3, q4, q5⟩ := Z4.out.cells
    refine wpAnyH_ready (rs := [6]) (by kernel_rfl) (by simp) ?_
    refine AllReadyH.cons rfl (fun K hK => ?_) AllReadyH.nil
    (try simp only [List.getElem_toArray, List.getElem_cons_succ, List.getElem_cons_zero])
    go_simp
    refine hK.out _ _ ?_ (fun hHeld => ?_)
    · exact hS.out _ (Below.setCell (Below.setCell (Below.setCell Q4.out No4.out _) No4.out _) No4.out _)
    clear hK K
    try simp only [Act.put, List.getElem_toArray, List.getElem_cons_succ, List.getElem_cons_zero]
    obtain ⟨y5, hy⟩ : ∃ yy, yy = (((y4.setCell ⟨n4, 0, none⟩ (.int .i64 la)).setCell ⟨n4, 1, none⟩ (.int .i64 a2)).setCell ⟨n4, 2, none⟩ (.int .i64 a3)) := ⟨_, rfl⟩
    rw [← hy] at hHeld ⊢
    have Q5 := hid (show Pure wz y5 from by rw [hy]; exact Below.setCell (Below.setCell (Below.setCell Q4.out No4.out _) No4.out _) No4.out _)
    have Z5 := hid (show BA3 n5 0 0 0 y5 from by rw [hy]; exact Z5.out.other Ne.out)
    have Z4 := hid (show BA3 n4 la a2 a3 y5 from by rw [hy]; exact Z4.out.put _ _ _)
    clear hy q0 q1 q2 q3 q4 q5
    obtain ⟨q0, q1, q2, q3, q4, q5⟩ := Z5.out.cells
    refine wpAnyH_ready (rs := [7]) (by kernel_rfl) (by simp) ?_
    refine AllReadyH.cons rfl (fun K hK => ?_) AllReadyH.nil
    (try simp only [List.getElem_toArray, List.getElem_cons_succ, List.getElem_cons_zero])
    go_simp
    refine hK.out _ _ ?_ (fun hHeld => ?_)
    · exact hS.out _ (Below.setCell (Below.setCell (Below.setCell Q5.out No5.out _) No5.out _) No5.out _)
    clear hK K
    try simp only [Act.put, List.getElem_toArray, List.getElem_cons_succ, List.getElem_cons_zero]
    obtain ⟨y6, hy⟩ : ∃ yy, yy = (((y5.setCell ⟨n5, 0, none⟩ (.int .i64 lb)).setCell ⟨n5, 1, none⟩ (.int .i64 b2)).setCell ⟨n5, 2, none⟩ (.int .i64 b3)) := ⟨_, rfl⟩
    rw [← hy] at hHeld ⊢
    have Q6 := hid (show Pure wz y6 from by rw [hy]; exact Below.setCell (Below.setCell (Below.setCell Q5.out No5.out _) No5.out _) No5.out _)
    have Z4 := hid (show BA3 n4 la a2 a3 y6 from by rw [hy]; exact Z4.out.other (fun e => Ne.out (Eq.symm e)))
    have Z5 := hid (show BA3 n5 lb b2 b3 y6 from by rw [hy]; exact Z5.out.put _ _ _)
    clear hy q0 q1 q2 q3 q4 q5
    refine wpAnyH_done (by kernel_rfl) ?_ _
    have QF := Q6
    rotate_left
    refine AllReadyH.cons rfl (fun K hK => ?_) AllReadyH.nil
    (try simp only [List.getElem_toArray, List.getElem_cons_succ, List.getElem_cons_zero])
    go_simp
    refine hK.out _ _ ?_ (fun hHeld => ?_)
    · exact hS.out _ (Q1.out.then_ (alp3 _ _))
    clear hK K
    try simp only [Act.put, List.setIfInBounds_toArray, List.set_cons_zero, List.set_cons_succ, List.getElem_toArray, List.getElem_cons_succ, List.getElem_cons_zero]
    obtain ⟨y2, hy⟩ : ∃ yy, yy = y1.alloc (.cells #[.int .i64 0, .int .i64 0, .int .i64 0] 191) := ⟨_, rfl⟩
    rw [← hy] at hHeld ⊢
    have hp : Pure y1 y2 := by rw [hy]; exact alp3 _ _
    have Q2 := hid (Q1.out.then_ hp)
    have Z5 := hid (show BA3 y1.heap.size 0 0 0 y2 from by rw [hy]; exact block_alloc_new _ _)
    have No5 := hid (show wz.heap.size ≤ y1.heap.size from Q1.out.size)
    have Ne := hid (show n4 ≠ y1.heap.size from fun e => by have := lt_of_block Z4.out; omega)
    have Z4 := hid (Z4.out.pure hp)
    clear hp hy
    generalize y1.heap.size = n5 at *
    refine wpAnyH_ready (rs := [1]) (by kernel_rfl) (by simp) ?_
    refine AllReadyH.cons rfl (fun K hK => ?_) AllReadyH.nil
    (try simp only [List.getElem_toArray, List.getElem_cons_succ, List.getElem_cons_zero])
    go_simp
    go_at_call 191; refine (ha.out _).mono ?_; rintro e y3 ⟨rfl, hp⟩; have Q3 := hid (Q2.out.then_ hp)
    refine hK.out _ _ ?_ (fun hHeld => ?_)
    · exact hS.out _ Q3.out
    clear hK K
    try simp only [Act.put, List.setIfInBounds_toArray, List.set_cons_zero, List.set_cons_succ, List.getElem_toArray, List.getElem_cons_succ, List.getElem_cons_zero]
    have Z4 := hid (Z4.out.pure hp)
    have Z5 := hid (Z5.out.pure hp)
    clear hp
    refine wpAnyH_ready (rs := [3]) (by kernel_rfl) (by simp) ?_
    refine AllReadyH.cons rfl (fun K hK => ?_) AllReadyH.nil
    (try simp only [List.getElem_toArray, List.getElem_cons_succ, List.getElem_cons_zero])
    go_simp
    go_at_call 191; refine (hb.out _).mono ?_; rintro e y4 ⟨rfl, hp⟩; have Q4 := hid (Q3.out.then_ hp)
    refine hK.out _ _ ?_ (fun hHeld => ?_)
    · exact hS.out _ Q4.out
    clear hK K
    try simp only [Act.put, List.setIfInBounds_toArray, List.set_cons_zero, List.set_cons_succ, List.getElem_toArray, List.getElem_cons_succ, List.getElem_cons_zero]
    have Z4 := hid (Z4.out.pure hp)
    have Z5 := hid (Z5.out.pure hp)
    clear hp
    obtain ⟨q0, q1, q2, q3, q4, q5⟩ := Z4.out.cells
    refine wpAnyH_ready (rs := [6]) (by kernel_rfl) (by simp) ?_
    refine AllReadyH.cons rfl (fun K hK => ?_) AllReadyH.nil
    (try simp only [List.getElem_toArray, List.getElem_cons_succ, List.getElem_cons_zero])
    go_simp
    refine hK.out _ _ ?_ (fun hHeld => ?_)
    · exact hS.out _ (Below.setCell (Below.setCell (Below.setCell Q4.out No4.out _) No4.out _) No4.out _)
    clear hK K
    try simp only [Act.put, List.getElem_toArray, List.getElem_cons_succ, List.getElem_cons_zero]
    obtain ⟨y5, hy⟩ : ∃ yy, yy = (((y4.setCell ⟨n4, 0, none⟩ (.int .i64 la)).setCell ⟨n4, 1, none⟩ (.int .i64 a2)).setCell ⟨n4, 2, none⟩ (.int .i64 a3)) := ⟨_, rfl⟩
    rw [← hy] at hHeld ⊢
    have Q5 := hid (show Pure wz y5 from by rw [hy]; exact Below.setCell (Below.setCell (Below.setCell Q4.out No4.out _) No4.out _) No4.out _)
    have Z5 := hid (show BA3 n5 0 0 0 y5 from by rw [hy]; exact Z5.out.other Ne.out)
    have Z4 := hid (show BA3 n4 la a2 a3 y5 from by rw [hy]; exact Z4.out.put _ _ _)
    clear hy q0 q1 q2 q3 q4 q5
    obtain ⟨q0, q1, q2, q3, q4, q5⟩ := Z5.out.cells
    refine wpAnyH_ready (rs := [7]) (by kernel_rfl) (by simp) ?_
    refine AllReadyH.cons rfl (fun K hK => ?_) AllReadyH.nil
    (try simp only [List.getElem_toArray, List.getElem_cons_succ, List.getElem_cons_zero])
    go_simp
    refine hK.out _ _ ?_ (fun hHeld => ?_)
    · exact hS.out _ (Below.setCell (Below.setCell (Below.setCell Q5.out No5.out _) No5.out _) No5.out _)
    clear hK K
    try simp only [Act.put, List.getElem_toArray, List.getElem_cons_succ, List.getElem_cons_zero]
    obtain ⟨y6, hy⟩ : ∃ yy, yy = (((y5.setCell ⟨n5, 0, none⟩ (.int .i64 lb)).setCell ⟨n5, 1, none⟩ (.int .i64 b2)).setCell ⟨n5, 2, none⟩ (.int .i64 b3)) := ⟨_, rfl⟩
    rw [← hy] at hHeld ⊢
    have Q6 := hid (show Pure wz y6 from by rw [hy]; exact Below.setCell (Below.setCell (Below.setCell Q5.out No5.out _) No5.out _) No5.out _)
    have Z4 := hid (show BA3 n4 la a2 a3 y6 from by rw [hy]; exact Z4.out.other (fun e => Ne.out (Eq.symm e)))
    have Z5 := hid (show BA3 n5 lb b2 b3 y6 from by rw [hy]; exact Z5.out.put _ _ _)
    clear hy q0 q1 q2 q3 q4 q5
    refine wpAnyH_done (by kernel_rfl) ?_ _
    have QF := Q6
    rotate_left
    refine AllReadyH.cons rfl (fun K hK => ?_) AllReadyH.nil
    (try simp only [List.getElem_toArray, List.getElem_cons_succ, List.getElem_cons_zero])
    go_simp
    refine hK.out _ _ ?_ (fun hHeld => ?_)
    · exact hS.out _ (Q0.out.then_ (alp3 _ _))
    clear hK K
    try simp only [Act.put, List.setIfInBounds_toArray, List.set_cons_zero, List.set_cons_succ, List.getElem_toArray, List.getElem_cons_succ, List.getElem_cons_zero]
    obtain ⟨y1, hy⟩ : ∃ yy, yy = y0.alloc (.cells #[.int .i64 0, .int .i64 0, .int .i64 0] 191) := ⟨_, rfl⟩
    rw [← hy] at hHeld ⊢
    have hp : Pure y0 y1 := by rw [hy]; exact alp3 _ _
    have Q1 := hid (Q0.out.then_ hp)
    have Z5 := hid (show BA3 y0.heap.size 0 0 0 y1 from by rw [hy]; exact block_alloc_new _ _)
    have No5 := hid (show wz.heap.size ≤ y0.heap.size from Q0.out.size)
    clear hp hy
    generalize y0.heap.size = n5 at *
    refine wpAnyH_ready (rs := [1, 4]) (by kernel_rfl) (by simp) ?_
    refine AllReadyH.cons rfl (fun K hK => ?_) ?_
    (try simp only [List.getElem_toArray, List.getElem_cons_succ, List.getElem_cons_zero])
    go_simp
    go_at_call 191; refine (ha.out _).mono ?_; rintro e y2 ⟨rfl, hp⟩; have Q2 := hid (Q1.out.then_ hp)
    refine hK.out _ _ ?_ (fun hHeld => ?_)
    · exact hS.out _ Q2.out
    clear hK K
    try simp only [Act.put, List.setIfInBounds_toArray, List.set_cons_zero, List.set_cons_succ, List.getElem_toArray, List.getElem_cons_succ, List.getElem_cons_zero]
    have Z5 := hid (Z5.out.pure hp)
    clear hp
    refine wpAnyH_ready (rs := [3, 4]) (by kernel_rfl) (by simp) ?_
    refine AllReadyH.cons rfl (fun K hK => ?_) ?_
    (try simp only [List.getElem_toArray, List.getElem_cons_succ, List.getElem_cons_zero])
    go_simp
    go_at_call 191; refine (hb.out _).mono ?_; rintro e y3 ⟨rfl, hp⟩; have Q3 := hid (Q2.out.then_ hp)
    refine hK.out _ _ ?_ (fun hHeld => ?_)
    · exact hS.out _ Q3.out
    clear hK K
    try simp only [Act.put, List.setIfInBounds_toArray, List.set_cons_zero, List.set_cons_succ, List.getElem_toArray, List.getElem_cons_succ, List.getElem_cons_zero]
    have Z5 := hid (Z5.out.pure hp)
    clear hp
    refine wpAnyH_ready (rs := [4]) (by kernel_rfl) (by simp) ?_
    refine AllReadyH.cons rfl (fun K hK => ?_) AllReadyH.nil
    (try simp only [List.getElem_toArray, List.getElem_cons_succ, List.getElem_cons_zero])
    go_simp
    refine hK.out _ _ ?_ (fun hHeld => ?_)
    · exact hS.out _ (Q3.out.then_ (alp3 _ _))
    clear hK K
    try simp only [Act.put, List.setIfInBounds_toArray, List.set_cons_zero, List.set_cons_succ, List.getElem_toArray, List.getElem_cons_succ, List.getElem_cons_zero]
    obtain ⟨y4, hy⟩ : ∃ yy, yy = y3.alloc (.cells #[.int .i64 0, .int .i64 0, .int .i64 0] 191) := ⟨_, rfl⟩
    rw [← hy] at hHeld ⊢
    have hp : Pure y3 y4 := by rw [hy]; exact alp3 _ _
    have Q4 := hid (Q3.out.then_ hp)
    have Z4 := hid (show BA3 y3.heap.size 0 0 0 y4 from by rw [hy]; exact block_alloc_new _ _)
    have No4 := hid (show wz.heap.size ≤ y3.heap.size from Q3.out.size)
    have Ne := hid (show n5 ≠ y3.heap.size from fun e => by have := lt_of_block Z5.out; omega)
    have Z5 := hid (Z5.out.pure hp)
    clear hp hy
    generalize y3.heap.size = n4 at *
    have Ne := hid (fun e => Ne.out (Eq.symm e))
    obtain ⟨q0, q1, q2, q3, q4, q5⟩ := Z4.out.cells
    refine wpAnyH_ready (rs := [6]) (by kernel_rfl) (by simp) ?_
    refine AllReadyH.cons rfl (fun K hK => ?_) AllReadyH.nil
    (try simp only [List.getElem_toArray, List.getElem_cons_succ, List.getElem_cons_zero])
    go_simp
    refine hK.out _ _ ?_ (fun hHeld => ?_)
    · exact hS.out _ (Below.setCell (Below.setCell (Below.setCell Q4.out No4.out _) No4.out _) No4.out _)
    clear hK K
    try simp only [Act.put, List.getElem_toArray, List.getElem_cons_succ, List.getElem_cons_zero]
    obtain ⟨y5, hy⟩ : ∃ yy, yy = (((y4.setCell ⟨n4, 0, none⟩ (.int .i64 la)).setCell ⟨n4, 1, none⟩ (.int .i64 a2)).setCell ⟨n4, 2, none⟩ (.int .i64 a3)) := ⟨_, rfl⟩
    rw [← hy] at hHeld ⊢
    have Q5 := hid (show Pure wz y5 from by rw [hy]; exact Below.setCell (Below.setCell (Below.setCell Q4.out No4.out _) No4.out _) No4.out _)
    have Z5 := hid (show BA3 n5 0 0 0 y5 from by rw [hy]; exact Z5.out.other Ne.out)
    have Z4 := hid (show BA3 n4 la a2 a3 y5 from by rw [hy]; exact Z4.out.put _ _ _)
    clear hy q0 q1 q2 q3 q4 q5
    obtain ⟨q0, q1, q2, q3, q4, q5⟩ := Z5.out.cells
    refine wpAnyH_ready (rs := [7]) (by kernel_rfl) (by simp) ?_
    refine AllReadyH.cons rfl (fun K hK => ?_) AllReadyH.nil
    (try simp only [List.getElem_toArray, List.getElem_cons_succ, List.getElem_cons_zero])
    go_simp
    refine hK.out _ _ ?_ (fun hHeld => ?_)
    · exact hS.out _ (Below.setCell (Below.setCell (Below.setCell Q5.out No5.out _) No5.out _) No5.out _)
    clear hK K
    try simp only [Act.put, List.getElem_toArray, List.getElem_cons_succ, List.getElem_cons_zero]
    obtain ⟨y6, hy⟩ : ∃ yy, yy = (((y5.setCell ⟨n5, 0, none⟩ (.int .i64 lb)).setCell ⟨n5, 1, none⟩ (.int .i64 b2)).setCell ⟨n5, 2, none⟩ (.int .i64 b3)) := ⟨_, rfl⟩
    rw [← hy] at hHeld ⊢
    have Q6 := hid (show Pure wz y6 from by rw [hy]; exact Below.setCell (Below.setCell (Below.setCell Q5.out No5.out _) No5.out _) No5.out _)
    have Z4 := hid (show BA3 n4 la a2 a3 y6 from by rw [hy]; exact Z4.out.other (fun e => Ne.out (Eq.symm e)))
    have Z5 := hid (show BA3 n5 lb b2 b3 y6 from by rw [hy]; exact Z5.out.put _ _ _)
    clear hy q0 q1 q2 q3 q4 q5
    refine wpAnyH_done (by kernel_rfl) ?_ _
    have QF := Q6
    rotate_left
    refine AllReadyH.cons rfl (fun K hK => ?_) AllReadyH.nil
    (try simp only [List.getElem_toArray, List.getElem_cons_succ, List.getElem_cons_zero])
    go_simp
    refine hK.out _ _ ?_ (fun hHeld => ?_)
    · exact hS.out _ (Q2.out.then_ (alp3 _ _))
    clear hK K
    try simp only [Act.put, List.setIfInBounds_toArray, List.set_cons_zero, List.set_cons_succ, List.getElem_toArray, List.getElem_cons_succ, List.getElem_cons_zero]
    obtain ⟨y3, hy⟩ : ∃ yy, yy = y2.alloc (.cells #[.int .i64 0, .int .i64 0, .int .i64 0] 191) := ⟨_, rfl⟩
    rw [← hy] at hHeld ⊢
    have hp : Pure y2 y3 := by rw [hy]; exact alp3 _ _
    have Q3 := hid (Q2.out.then_ hp)
    have Z4 := hid (show BA3 y2.heap.size 0 0 0 y3 from by rw [hy]; exact block_alloc_new _ _)
    have No4 := hid (show wz.heap.size ≤ y2.heap.size from Q2.out.size)
    have Ne := hid (show n5 ≠ y2.heap.size from fun e => by have := lt_of_block Z5.out; omega)
    have Z5 := hid (Z5.out.pure hp)
    clear hp hy
    generalize y2.heap.size = n4 at *
    have Ne := hid (fun e => Ne.out (Eq.symm e))
    refine wpAnyH_ready (rs := [3]) (by kernel_rfl) (by simp) ?_
    refine AllReadyH.cons rfl (fun K hK => ?_) AllReadyH.nil
    (try simp only [List.getElem_toArray, List.getElem_cons_succ, List.getElem_cons_zero])
    go_simp
    go_at_call 191; refine (hb.out _).mono ?_; rintro e y4 ⟨rfl, hp⟩; have Q4 := hid (Q3.out.then_ hp)
    refine hK.out _ _ ?_ (fun hHeld => ?_)
    · exact hS.out _ Q4.out
    clear hK K
    try simp only [Act.put, List.setIfInBounds_toArray, List.set_cons_zero, List.set_cons_succ, List.getElem_toArray, List.getElem_cons_succ, List.getElem_cons_zero]
    have Z4 := hid (Z4.out.pure hp)
    have Z5 := hid (Z5.out.pure hp)
    clear hp
    obtain ⟨q0, q1, q2, q3, q4, q5⟩ := Z4.out.cells
    refine wpAnyH_ready (rs := [6]) (by kernel_rfl) (by simp) ?_
    refine AllReadyH.cons rfl (fun K hK => ?_) AllReadyH.nil
    (try simp only [List.getElem_toArray, List.getElem_cons_succ, List.getElem_cons_zero])
    go_simp
    refine hK.out _ _ ?_ (fun hHeld => ?_)
    · exact hS.out _ (Below.setCell (Below.setCell (Below.setCell Q4.out No4.out _) No4.out _) No4.out _)
    clear hK K
    try simp only [Act.put, List.getElem_toArray, List.getElem_cons_succ, List.getElem_cons_zero]
    obtain ⟨y5, hy⟩ : ∃ yy, yy = (((y4.setCell ⟨n4, 0, none⟩ (.int .i64 la)).setCell ⟨n4, 1, none⟩ (.int .i64 a2)).setCell ⟨n4, 2, none⟩ (.int .i64 a3)) := ⟨_, rfl⟩
    rw [← hy] at hHeld ⊢
    have Q5 := hid (show Pure wz y5 from by rw [hy]; exact Below.setCell (Below.setCell (Below.setCell Q4.out No4.out _) No4.out _) No4.out _)
    have Z5 := hid (show BA3 n5 0 0 0 y5 from by rw [hy]; exact Z5.out.other Ne.out)
    have Z4 := hid (show BA3 n4 la a2 a3 y5 from by rw [hy]; exact Z4.out.put _ _ _)
    clear hy q0 q1 q2 q3 q4 q5
    obtain ⟨q0, q1, q2, q3, q4, q5⟩ := Z5.out.cells
    refine wpAnyH_ready (rs := [7]) (by kernel_rfl) (by simp) ?_
    refine AllReadyH.cons rfl (fun K hK => ?_) AllReadyH.nil
    (try simp only [List.getElem_toArray, List.getElem_cons_succ, List.getElem_cons_zero])
    go_simp
    refine hK.out _ _ ?_ (fun hHeld => ?_)
    · exact hS.out _ (Below.setCell (Below.setCell (Below.setCell Q5.out No5.out _) No5.out _) No5.out _)
    clear hK K
    try simp only [Act.put, List.getElem_toArray, List.getElem_cons_succ, List.getElem_cons_zero]
    obtain ⟨y6, hy⟩ : ∃ yy, yy = (((y5.setCell ⟨n5, 0, none⟩ (.int .i64 lb)).setCell ⟨n5, 1, none⟩ (.int .i64 b2)).setCell ⟨n5, 2, none⟩ (.int .i64 b3)) := ⟨_, rfl⟩
    rw [← hy] at hHeld ⊢
    have Q6 := hid (show Pure wz y6 from by rw [hy]; exact Below.setCell (Below.setCell (Below.setCell Q5.out No5.out _) No5.out _) No5.out _)
    have Z4 := hid (show BA3 n4 la a2 a3 y6 from by rw [hy]; exact Z4.out.other (fun e => Ne.out (Eq.symm e)))
    have Z5 := hid (show BA3 n5 lb b2 b3 y6 from by rw [hy]; exact Z5.out.put _ _ _)
    clear hy q0 q1 q2 q3 q4 q5
    refine wpAnyH_done (by kernel_rfl) ?_ _
    have QF := Q6
    rotate_left
    refine AllReadyH.cons rfl (fun K hK => ?_) AllReadyH.nil
    (try simp only [List.getElem_toArray, List.getElem_cons_succ, List.getElem_cons_zero])
    go_simp
    refine hK.out _ _ ?_ (fun hHeld => ?_)
    · exact hS.out _ (Q1.out.then_ (alp3 _ _))
    clear hK K
    try simp only [Act.put, List.setIfInBounds_toArray, List.set_cons_zero, List.set_cons_succ, List.getElem_toArray, List.getElem_cons_succ, List.getElem_cons_zero]
    obtain ⟨y2, hy⟩ : ∃ yy, yy = y1.alloc (.cells #[.int .i64 0, .int .i64 0, .int .i64 0] 191) := ⟨_, rfl⟩
    rw [← hy] at hHeld ⊢
    have hp : Pure y1 y2 := by rw [hy]; exact alp3 _ _
    have Q2 := hid (Q1.out.then_ hp)
    have Z4 := hid (show BA3 y1.heap.size 0 0 0 y2 from by rw [hy]; exact block_alloc_new _ _)
    have No4 := hid (show wz.heap.size ≤ y1.heap.size from Q1.out.size)
    have Ne := hid (show n5 ≠ y1.heap.size from fun e => by have := lt_of_block Z5.out; omega)
    have Z5 := hid (Z5.out.pure hp)
    clear hp hy
    generalize y1.heap.size = n4 at *
    have Ne := hid (fun e => Ne.out (Eq.symm e))
    refine wpAnyH_ready (rs := [1]) (by kernel_rfl) (by simp) ?_
    refine AllReadyH.cons rfl (fun K hK => ?_) AllReadyH.nil
    (try simp only [List.getElem_toArray, List.getElem_cons_succ, List.getElem_cons_zero])
    go_simp
    go_at_call 191; refine (ha.out _).mono ?_; rintro e y3 ⟨rfl, hp⟩; have Q3 := hid (Q2.out.then_ hp)
    refine hK.out _ _ ?_ (fun hHeld => ?_)
    · exact hS.out _ Q3.out
    clear hK K
    try simp only [Act.put, List.setIfInBounds_toArray, List.set_cons_zero, List.set_cons_succ, List.getElem_toArray, List.getElem_cons_succ, List.getElem_cons_zero]
    have Z4 := hid (Z4.out.pure hp)
    have Z5 := hid (Z5.out.pure hp)
    clear hp
    refine wpAnyH_ready (rs := [3]) (by kernel_rfl) (by simp) ?_
    refine AllReadyH.cons rfl (fun K hK => ?_) AllReadyH.nil
    (try simp only [List.getElem_toArray, List.getElem_cons_succ, List.getElem_cons_zero])
    go_simp
    go_at_call 191; refine (hb.out _).mono ?_; rintro e y4 ⟨rfl, hp⟩; have Q4 := hid (Q3.out.then_ hp)
    refine hK.out _ _ ?_ (fun hHeld => ?_)
    · exact hS.out _ Q4.out
    clear hK K
    try simp only [Act.put, List.setIfInBounds_toArray, List.set_cons_zero, List.set_cons_succ, List.getElem_toArray, List.getElem_cons_succ, List.getElem_cons_zero]
    have Z4 := hid (Z4.out.pure hp)
    have Z5 := hid (Z5.out.pure hp)
    clear hp
    obtain ⟨q0, q1, q2, q3, q4, q5⟩ := Z4.out.cells
    refine wpAnyH_ready (rs := [6]) (by kernel_rfl) (by simp) ?_
    refine AllReadyH.cons rfl (fun K hK => ?_) AllReadyH.nil
    (try simp only [List.getElem_toArray, List.getElem_cons_succ, List.getElem_cons_zero])
    go_simp
    refine hK.out _ _ ?_ (fun hHeld => ?_)
    · exact hS.out _ (Below.setCell (Below.setCell (Below.setCell Q4.out No4.out _) No4.out _) No4.out _)
    clear hK K
    try simp only [Act.put, List.getElem_toArray, List.getElem_cons_succ, List.getElem_cons_zero]
    obtain ⟨y5, hy⟩ : ∃ yy, yy = (((y4.setCell ⟨n4, 0, none⟩ (.int .i64 la)).setCell ⟨n4, 1, none⟩ (.int .i64 a2)).setCell ⟨n4, 2, none⟩ (.int .i64 a3)) := ⟨_, rfl⟩
    rw [← hy] at hHeld ⊢
    have Q5 := hid (show Pure wz y5 from by rw [hy]; exact Below.setCell (Below.setCell (Below.setCell Q4.out No4.out _) No4.out _) No4.out _)
    have Z5 := hid (show BA3 n5 0 0 0 y5 from by rw [hy]; exact Z5.out.other Ne.out)
    have Z4 := hid (show BA3 n4 la a2 a3 y5 from by rw [hy]; exact Z4.out.put _ _ _)
    clear hy q0 q1 q2 q3 q4 q5
    obtain ⟨q0, q1, q2, q3, q4, q5⟩ := Z5.out.cells
    refine wpAnyH_ready (rs := [7]) (by kernel_rfl) (by simp) ?_
    refine AllReadyH.cons rfl (fun K hK => ?_) AllReadyH.nil
    (try simp only [List.getElem_toArray, List.getElem_cons_succ, List.getElem_cons_zero])
    go_simp
    refine hK.out _ _ ?_ (fun hHeld => ?_)
    · exact hS.out _ (Below.setCell (Below.setCell (Below.setCell Q5.out No5.out _) No5.out _) No5.out _)
    clear hK K
    try simp only [Act.put, List.getElem_toArray, List.getElem_cons_succ, List.getElem_cons_zero]
    obtain ⟨y6, hy⟩ : ∃ yy, yy = (((y5.setCell ⟨n5, 0, none⟩ (.int .i64 lb)).setCell ⟨n5, 1, none⟩ (.int .i64 b2)).setCell ⟨n5, 2, none⟩ (.int .i64 b3)) := ⟨_, rfl⟩
    rw [← hy] at hHeld ⊢
    have Q6 := hid (show Pure wz y6 from by rw [hy]; exact Below.setCell (Below.setCell (Below.setCell Q5.out No5.out _) No5.out _) No5.out _)
    have Z4 := hid (show BA3 n4 la a2 a3 y6 from by rw [hy]; exact Z4.out.other (fun e => Ne.out (Eq.symm e)))
    have Z5 := hid (show BA3 n5 lb b2 b3 y6 from by rw [hy]; exact Z5.out.put _ _ _)
    clear hy q0 q1 q2 q3 q4 q5
    refine wpAnyH_done (by kernel_rfl) ?_ _
    have QF := Q6
    all_goals
      clear hHeld
      go_wp2
      go_meet
      case rel => exact ⟨_, _, rfl, rfl, Z4.out, Z5.out, QF.out⟩
  case rest =>
  obtain ⟨n4, n5, rfl, rfl, hZ4, hZ5, hpc⟩ := hcut
  have hh := hid (fun n => hcm.out n4 n5 (wc.drewN n) hZ4 hZ5)
  have Hpc := hid (show Pure w wc from Hpz.out.then_ hpc)
  have Hnw := hid (show w.heap.size ≤ n4r from by rw [Hn2.out]; exact Hn.out)
  have f0 := cell_of_block ((hpc.block _ (lt_of_block B2.out)).trans B2.out)
  have f1 := cell_of_block ((hpc.block _ (lt_of_block B3.out)).trans B3.out)
  have g4 := (hpc.block _ (lt_of_block B4.out)).trans B4.out
  have f4 := cell_of_block g4
  have B4w := hid (fun (n : Nat) => (show (wc.drewN n).heap[n4r]? = some (.cells #[.int .i64 0, .int .i64 0, .int .i64 0] 92 (0, 0)) from g4))
  have g40 : wc.frozen? ⟨n4r, 0, none⟩ = false := by simp [World.frozen?, g4]
  have g41 : wc.frozen? ⟨n4r, 1, none⟩ = false := by simp [World.frozen?, g4]
  have g42 : wc.frozen? ⟨n4r, 2, none⟩ = false := by simp [World.frozen?, g4]
  have f00 : wc.cell? ⟨n2, 0, none⟩ = some (.int .i64 a1) := f0 0
  have f01 : wc.cell? ⟨n2, 1, none⟩ = some (.int .i64 a2) := f0 1
  have f02 : wc.cell? ⟨n2, 2, none⟩ = some (.int .i64 a3) := f0 2
  have f10 : wc.cell? ⟨n3, 0, none⟩ = some (.int .i64 b1) := f1 0
  have f11 : wc.cell? ⟨n3, 1, none⟩ = some (.int .i64 b2) := f1 1
  have f12 : wc.cell? ⟨n3, 2, none⟩ = some (.int .i64 b3) := f1 2
  have f40 : wc.cell? ⟨n4r, 0, none⟩ = some (.int .i64 0) := f4 0
  have f41 : wc.cell? ⟨n4r, 1, none⟩ = some (.int .i64 0) := f4 1
  have f42 : wc.cell? ⟨n4r, 2, none⟩ = some (.int .i64 0) := f4 2
  have Hfin := hid (fun (n : Nat) (u v t : Value) => (show Pure w ((((wc.drewN n).setCell ⟨n4r, 0, none⟩ u).setCell ⟨n4r, 1, none⟩ v).setCell ⟨n4r, 2, none⟩ t) from
    Below.setCell (Below.setCell (Below.setCell (show Pure w (wc.drewN n) from Hpc.out.trans ⟨rfl, rfl, rfl, Nat.le_refl _, fun _ _ => rfl⟩) Hnw.out _) Hnw.out _) Hnw.out _))
  clear f0 f1 f4 g4 hZ4 hZ5 hpc ha hb hn4
  by_cases hc : c < 0
  · have e := Hr.out
    rw [if_pos hc] at e
    injection e with e1 e2 e3
    subst e1 e2 e3
    clear Hr
    go_wp2_with fail
    go_quiet ((go_at_call 192; exact Calls.quiet_of_same (hh.out _)))
    go_wp2
    have hB := (show BA4 n4r r1 r2 r3 _ from BA4.put (W := wc.drewN nq) (B4w.out nq) r1 r2 r3)
    obtain ⟨k0, k1, k2⟩ := hB
    exact bodyPost_ret (v := .agg #[.int .i64 r1, .int .i64 r2, .int .i64 r3]) (by simp [results, Tryz.results151, go_sem, k0, k1, k2]) rfl ⟨rfl, Hfin.out _ _ _ _⟩
  · have e := Hr.out
    rw [if_neg hc] at e
    injection e with e1 e2 e3
    subst e1 e2 e3
    clear Hr
    go_wp2_with fail
    go_quiet ((go_at_call 192; exact Calls.quiet_of_same (hh.out _)))
    go_wp2
    have hB := (show BA4 n4r r1 r2 r3 _ from BA4.put (W := wc.drewN nq) (B4w.out nq) r1 r2 r3)
    obtain ⟨k0, k1, k2⟩ := hB
    exact bodyPost_ret (v := .agg #[.int .i64 r1, .int .i64 r2, .int .i64 r3]) (by simp [results, Tryz.results151, go_sem, k0, k1, k2]) rfl ⟨rfl, Hfin.out _ _ _ _⟩
end Go.Proofs.YtdlpnhfgjficgaaGreat
