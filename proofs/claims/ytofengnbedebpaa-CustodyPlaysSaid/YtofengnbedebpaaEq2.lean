/- ctx.Same, bag.Same, ref05's Same. -/
import Derived.Test.YtofengnbedebpaaEq
namespace Go.Proofs.Ytofengnbedebpaa
open Go.RowKit Go.Maps

set_option maxHeartbeats 1000000 in
theorem mcsame_any (va vb vc vd : Value) (A B C D : List Dot) (w : World) (h1 : Dots w va A) (h2 : Dots w vb B) (h3 : Dots w vc C) (h4 : Dots w vd D) :
    Calls Try.prog 50 #[.agg #[va, vb], .agg #[vc, vd]] w fun e w' => e = .returned (.bool (decide (A = C) && decide (B = D))) ∧ Pure w w' := by
  obtain ⟨wz, hwz⟩ : ∃ wz, wz = (w.alloc (.cells #[va, vb] 29)).alloc (.cells #[vc, vd] 29) := ⟨_, rfl⟩
  have Hwz := hid (show Pure w wz from by rw [hwz]; exact ((Below.refl _ _).alloc (Nat.le_refl _) _).alloc (by simp) _)
  have b0 : wz.heap[w.heap.size]? = some (.cells #[va, vb] 29 (0, 0)) := by rw [hwz]; exact block_alloc_old (block_alloc_new _ _) _
  have b1 : wz.heap[w.heap.size + 1]? = some (.cells #[vc, vd] 29 (0, 0)) := by
    rw [hwz]; have := block_alloc_new (w.alloc (.cells #[va, vb] 29)) (.cells #[vc, vd] 29)
    simpa using this
  have hp := hid (fun W (hW : Pure wz W) => Hwz.out.then_ hW)
  have s1 := hid (fun W (hW : Pure wz W) => mdsame_any va vc A C W (Row.pure h1 (hp.out W hW)) (Row.pure h3 (hp.out W hW)))
  have s2 := hid (fun W (hW : Pure wz W) => mdsame_any vb vd B D W (Row.pure h2 (hp.out W hW)) (Row.pure h4 (hp.out W hW)))
  obtain ⟨a0, c0, rfl⟩ := h1.shape
  obtain ⟨a1, c1, rfl⟩ := h2.shape
  obtain ⟨a2, c2, rfl⟩ := h3.shape
  obtain ⟨a3, c3, rfl⟩ := h4.shape
  have B0 := hid b0
  have B1 := hid b1
  clear h1 h2 h3 h4 b0 b1
  generalize decide (A = C) = X at *
  generalize decide (B = D) = Y at *
  go_enter Try.func50, Try.ntmps50
  go_wp2_with fail
  rw [← hwz]
  clear hwz
  refine (s1.out wz (Below.refl _ _)).mono ?_
  rintro e w1 ⟨rfl, hp1⟩
  have e0 := (hp1.block _ (lt_of_block B0.out)).trans B0.out
  have e1 := (hp1.block _ (lt_of_block B1.out)).trans B1.out
  have f0 : w1.cell? ⟨w.heap.size, 1, none⟩ = some (.slice a1 B.length c1) := cell_of_block e0 1
  have f1 : w1.cell? ⟨w.heap.size + 1, 1, none⟩ = some (.slice a3 D.length c3) := cell_of_block e1 1
  have Hp1 := hid hp1
  clear e0 e1 hp1
  cases X with
  | false =>
    go_wp2
    go_ret
    exact ⟨rfl, hp.out w1 Hp1.out⟩
  | true =>
    go_wp2_with fail
    refine (s2.out w1 Hp1.out).mono ?_
    rintro e w2 ⟨rfl, hp2⟩
    have Hp2 := hid ((hp.out w1 Hp1.out).then_ hp2)
    clear hp2
    go_wp2
    go_ret
    exact ⟨rfl, Hp2.out⟩

theorem bag_eq (g h : Bag) : decide (g = h) = (decide (g.1 = h.1) && (decide (g.2.1 = h.2.1) && decide (g.2.2 = h.2.2))) := by
  obtain ⟨a, b, c⟩ := g
  obtain ⟨x, y, z⟩ := h
  by_cases h1 : a = x <;> by_cases h2 : b = y <;> by_cases h3 : c = z <;> simp [h1, h2, h3]

set_option maxHeartbeats 1000000 in
theorem mbsame_any (v u : Value) (g h : Bag) (w : World) (hg : BagAt w v g) (hh : BagAt w u h) :
    Calls Try.prog 27 #[v, u] w fun e w' => e = .returned (.bool (decide (g = h))) ∧ Pure w w' := by
  obtain ⟨v0, v1, v2, rfl, g0, g1, g2⟩ := hg
  obtain ⟨u0, u1, u2, rfl, h0, h1, h2⟩ := hh
  rw [bag_eq]
  obtain ⟨GL, GB, GC⟩ := g
  obtain ⟨HL, HB, HC⟩ := h
  dsimp only at *
  obtain ⟨wz, hwz⟩ : ∃ wz, wz = (w.alloc (.cells #[v0, v1, v2] 31)).alloc (.cells #[u0, u1, u2] 31) := ⟨_, rfl⟩
  have Hwz := hid (show Pure w wz from by rw [hwz]; exact ((Below.refl _ _).alloc (Nat.le_refl _) _).alloc (by simp) _)
  have b0 : wz.heap[w.heap.size]? = some (.cells #[v0, v1, v2] 31 (0, 0)) := by rw [hwz]; exact block_alloc_old (block_alloc_new _ _) _
  have b1 : wz.heap[w.heap.size + 1]? = some (.cells #[u0, u1, u2] 31 (0, 0)) := by
    rw [hwz]; have := block_alloc_new (w.alloc (.cells #[v0, v1, v2] 31)) (.cells #[u0, u1, u2] 31)
    simpa using this
  have hp := hid (fun W (hW : Pure wz W) => Hwz.out.then_ hW)
  have s1 := hid (fun W (hW : Pure wz W) => mmsame_any v0 u0 GL HL W (Row.pure g0 (hp.out W hW)) (Row.pure h0 (hp.out W hW)))
  have s2 := hid (fun W (hW : Pure wz W) => mcsame_any v1 v2 u1 u2 GB GC HB HC W (Row.pure g1 (hp.out W hW)) (Row.pure g2 (hp.out W hW)) (Row.pure h1 (hp.out W hW)) (Row.pure h2 (hp.out W hW)))
  obtain ⟨a0, c0, rfl⟩ := g0.shape
  obtain ⟨a1, c1, rfl⟩ := g1.shape
  obtain ⟨a2, c2, rfl⟩ := g2.shape
  obtain ⟨a3, c3, rfl⟩ := h0.shape
  obtain ⟨a4, c4, rfl⟩ := h1.shape
  obtain ⟨a5, c5, rfl⟩ := h2.shape
  have B0 := hid b0
  have B1 := hid b1
  clear g0 g1 g2 h0 h1 h2 b0 b1
  generalize decide (GL = HL) = X at *
  generalize (decide (GB = HB) && decide (GC = HC)) = Y at *
  go_enter Try.func27, Try.ntmps27
  go_wp2_with fail
  rw [← hwz]
  clear hwz
  refine (s2.out wz (Below.refl _ _)).mono ?_
  rintro e w1 ⟨rfl, hp1⟩
  have e0 := (hp1.block _ (lt_of_block B0.out)).trans B0.out
  have e1 := (hp1.block _ (lt_of_block B1.out)).trans B1.out
  have f0 : w1.cell? ⟨w.heap.size, 0, none⟩ = some (.slice a0 GL.length c0) := cell_of_block e0 0
  have f1 : w1.cell? ⟨w.heap.size + 1, 0, none⟩ = some (.slice a3 HL.length c3) := cell_of_block e1 0
  have Hp1 := hid hp1
  clear e0 e1 hp1
  cases Y with
  | false =>
    go_wp2
    go_ret
    exact ⟨ret_bool (by simp), hp.out w1 Hp1.out⟩
  | true =>
    go_wp2_with fail
    refine (s1.out w1 Hp1.out).mono ?_
    rintro e w2 ⟨rfl, hp2⟩
    have Hp2 := hid ((hp.out w1 Hp1.out).then_ hp2)
    clear hp2
    go_wp2
    go_ret
    exact ⟨ret_bool (by simp), Hp2.out⟩

set_option maxHeartbeats 1000000 in
theorem rbsame_any (v u : Value) (g h : Bag) (w : World) (hg : BagAt w v g) (hh : BagAt w u h) :
    Calls Try.prog 37 #[v, u] w fun e w' => e = .returned (.bool (decide (g = h))) ∧ Pure w w' := by
  obtain ⟨v0, v1, v2, rfl, g0, g1, g2⟩ := hg
  obtain ⟨u0, u1, u2, rfl, h0, h1, h2⟩ := hh
  rw [bag_eq]
  obtain ⟨GL, GB, GC⟩ := g
  obtain ⟨HL, HB, HC⟩ := h
  dsimp only at *
  obtain ⟨wz, hwz⟩ : ∃ wz, wz = (w.alloc (.cells #[v0, v1, v2] 31)).alloc (.cells #[u0, u1, u2] 31) := ⟨_, rfl⟩
  have Hwz := hid (show Pure w wz from by rw [hwz]; exact ((Below.refl _ _).alloc (Nat.le_refl _) _).alloc (by simp) _)
  have b0 : wz.heap[w.heap.size]? = some (.cells #[v0, v1, v2] 31 (0, 0)) := by rw [hwz]; exact block_alloc_old (block_alloc_new _ _) _
  have b1 : wz.heap[w.heap.size + 1]? = some (.cells #[u0, u1, u2] 31 (0, 0)) := by
    rw [hwz]; have := block_alloc_new (w.alloc (.cells #[v0, v1, v2] 31)) (.cells #[u0, u1, u2] 31)
    simpa using this
  have hp := hid (fun W (hW : Pure wz W) => Hwz.out.then_ hW)
  have s1 := hid (fun W (hW : Pure wz W) => rmsame_any v0 u0 GL HL W (Row.pure g0 (hp.out W hW)) (Row.pure h0 (hp.out W hW)))
  have s2 := hid (fun W (hW : Pure wz W) => rcsame_any v1 v2 u1 u2 GB GC HB HC W (Row.pure g1 (hp.out W hW)) (Row.pure g2 (hp.out W hW)) (Row.pure h1 (hp.out W hW)) (Row.pure h2 (hp.out W hW)))
  obtain ⟨a0, c0, rfl⟩ := g0.shape
  obtain ⟨a1, c1, rfl⟩ := g1.shape
  obtain ⟨a2, c2, rfl⟩ := g2.shape
  obtain ⟨a3, c3, rfl⟩ := h0.shape
  obtain ⟨a4, c4, rfl⟩ := h1.shape
  obtain ⟨a5, c5, rfl⟩ := h2.shape
  have B0 := hid b0
  have B1 := hid b1
  clear g0 g1 g2 h0 h1 h2 b0 b1
  generalize decide (GL = HL) = X at *
  generalize (decide (GB = HB) && decide (GC = HC)) = Y at *
  go_enter Try.func37, Try.ntmps37
  go_wp2_with fail
  rw [← hwz]
  clear hwz
  refine (s1.out wz (Below.refl _ _)).mono ?_
  rintro e w1 ⟨rfl, hp1⟩
  have e0 := (hp1.block _ (lt_of_block B0.out)).trans B0.out
  have e1 := (hp1.block _ (lt_of_block B1.out)).trans B1.out
  have f0 : w1.cell? ⟨w.heap.size, 1, none⟩ = some (.slice a1 GB.length c1) := cell_of_block e0 1
  have f1 : w1.cell? ⟨w.heap.size + 1, 1, none⟩ = some (.slice a4 HB.length c4) := cell_of_block e1 1
  have f2 : w1.cell? ⟨w.heap.size, 2, none⟩ = some (.slice a2 GC.length c2) := cell_of_block e0 2
  have f3 : w1.cell? ⟨w.heap.size + 1, 2, none⟩ = some (.slice a5 HC.length c5) := cell_of_block e1 2
  have Hp1 := hid hp1
  clear e0 e1 hp1
  go_wp2_with fail
  refine (s2.out w1 Hp1.out).mono ?_
  rintro e w2 ⟨rfl, hp2⟩
  have Hp2 := hid ((hp.out w1 Hp1.out).then_ hp2)
  clear hp2
  cases X <;>
  · go_wp2
    go_ret
    exact ⟨rfl, Hp2.out⟩
end Go.Proofs.Ytofengnbedebpaa
