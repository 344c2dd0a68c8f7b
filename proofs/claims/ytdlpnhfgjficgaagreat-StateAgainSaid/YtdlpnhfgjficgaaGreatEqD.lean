/- slices.Equal at names; ctx.Same. -/
import Derived.Test.YtdlpnhfgjficgaaGreatMJa
namespace Go.Proofs.YtdlpnhfgjficgaaGreat
open Go.RowKit Go.Maps

set_option maxHeartbeats 2000000 in
theorem mdsame_any (v u : Value) (l k : List Dot) (w : World) (hv : Dots w v l) (hu : Dots w u k) :
    Calls Tryz.prog 172 #[v, u] w fun e w' => e = .returned (.bool (decide (l = k))) ∧ Pure w w' := by
  obtain ⟨a, ca, rfl⟩ := hv.shape
  obtain ⟨b, cb, rfl⟩ := hu.shape
  have h2 : l.length ≤ maxLen := Row.len_le hv
  have h4 : k.length ≤ maxLen := Row.len_le hu
  unfold maxLen at h2 h4
  have Hv := hid hv
  have Hu := hid hu
  have heq := dot_eqIn
  clear hv hu
  by_cases hl : l.length = k.length
  · have hne : ((l.length : Int) != (k.length : Int)) = false := by simp [hl]
    have hl1 : l.length ≤ k.length := by omega
    have hl2 : k.length ≤ l.length := by omega
    have Hl := hid hl
    clear hl
    go_enter Tryz.func172, Tryz.ntmps172
    go_wp2
    go_loopw [5, 13] (fun _ x wr => ∃ i : Nat, i ≤ l.length ∧ x = .int .i64 i ∧ l.take i = k.take i ∧ ∃ n, wr = w.drewN n) (fun _ x _ => l.length - (RowKit.intOf x).toNat)
    case atStart => exact ⟨0, Nat.zero_le _, rfl, by simp, 0, rfl⟩
    case round =>
      obtain ⟨i, hi, rfl, ht, n, rfl⟩ := hrel
      by_cases hlt : i < l.length
      · have hlk : i < k.length := by omega
        obtain ⟨ba, oa, rfl, _, c0, c1⟩ := Dots.get Hv.out hlt
        obtain ⟨bb, ob, rfl, _, d0, d1⟩ := Dots.get Hu.out hlk
        have Hs := hid (dsame_take ht hlt hlk)
        have Hn := hid (@dsame_not l k i)
        have hlt' : (i : Int) < (l.length : Int) := by omega
        have hlk' : (i : Int) < (k.length : Int) := by omega
        clear ht
        generalize l.getD i (0, 0) = x at *
        generalize k.getD i (0, 0) = y at *
        obtain ⟨x1, x2⟩ := x
        obtain ⟨y1, y2⟩ := y
        dsimp only at c0 c1 d0 d1
        by_cases hxy : x1 = y1 ∧ x2 = y2
        · obtain ⟨rfl, rfl⟩ := hxy
          have Hs' := hid (Hs.out rfl)
          clear Hs Hn
          go_wp2_with fail
          go_quiet (fail)
          go_wp2
          go_roundw
          case rel => exact ⟨i + 1, by omega, by go_num, Hs'.out, _, rfl⟩
          case measure => simp [RowKit.intOf]; omega
        · have hb : (decide (x1 = y1) && decide (x2 = y2)) = false := by simpa using hxy
          have Hf := hid (Hn.out (fun e => hxy (by cases e; exact ⟨rfl, rfl⟩)))
          clear hxy Hs Hn
          go_wp2_with fail
          go_quiet (fail)
          go_wp2
          go_ret
          exact ⟨ret_bool Hf.out.symm, (pure_drewN _ n).then_ (pure_drewN _ _)⟩
      · have e : i = l.length := by omega
        subst e
        have hlt' : ¬ (l.length : Int) < (l.length : Int) := by omega
        have Hf := hid (dsame_full Hl.out ht)
        clear ht
        go_wp2
        go_ret
        exact ⟨ret_bool Hf.out.symm, pure_drewN _ _⟩
  · have Hf := hid (dsame_short hl)
    have hne : ((l.length : Int) != (k.length : Int)) = true := by simp; omega
    go_enter Tryz.func172, Tryz.ntmps172
    go_wp2
    go_ret
    exact ⟨ret_bool Hf.out.symm, Below.refl _ _⟩
set_option maxHeartbeats 1000000 in
theorem mcsame_any (va vb vc vd : Value) (A B C D : List Dot) (w : World) (h1 : Dots w va A) (h2 : Dots w vb B) (h3 : Dots w vc C) (h4 : Dots w vd D) :
    Calls Tryz.prog 133 #[.agg #[va, vb], .agg #[vc, vd]] w fun e w' => e = .returned (.bool (decide (A = C) && decide (B = D))) ∧ Pure w w' := by
  obtain ⟨wz, hwz⟩ : ∃ wz, wz = (w.alloc (.cells #[va, vb] 32)).alloc (.cells #[vc, vd] 32) := ⟨_, rfl⟩
  have Hwz := hid (show Pure w wz from by rw [hwz]; exact ((Below.refl _ _).alloc (Nat.le_refl _) _).alloc (by simp) _)
  have b0 : wz.heap[w.heap.size]? = some (.cells #[va, vb] 32 (0, 0)) := by rw [hwz]; exact block_alloc_old (block_alloc_new _ _) _
  have b1 : wz.heap[w.heap.size + 1]? = some (.cells #[vc, vd] 32 (0, 0)) := by
    rw [hwz]; have := block_alloc_new (w.alloc (.cells #[va, vb] 32)) (.cells #[vc, vd] 32)
    simpa using this
  have hp := hid (fun W (hW : Pure wz W) => Hwz.out.then_ hW)
  have s1 := hid (fun W (hW : Pure wz W) => mdsame_any va vc A C W (Row.pure h1 (hp.out W hW)) (Row.pure h3 (hp.out W hW)))
  have s2 := hid (fun W (hW : Pure wz W) => mdsame_any vb vd B D W (Row.pure h2 (hp.out W hW)) (Row.pure h4 (hp.out W hW)))
  obtain ⟨a0, c0, rfl⟩ := h1.shape
  obtain ⟨a1, c1, rfl⟩ := h2.shape
  obtain ⟨a2, c2, rfl⟩ := h3.shape
  obtain ⟨a3, c3, rfl⟩ := h4.shape
  have B0 := hid b0
  have B1 := hid b1
  clear h1 h2 h3 h4 b0 b1
  generalize decide (A = C) = X at *
  generalize decide (B = D) = Y at *
  go_enter Tryz.func133, Tryz.ntmps133
  go_wp2_with fail
  rw [← hwz]
  clear hwz
  refine (s1.out wz (Below.refl _ _)).mono ?_
  rintro e w1 ⟨rfl, hp1⟩
  have e0 := (hp1.block _ (lt_of_block B0.out)).trans B0.out
  have e1 := (hp1.block _ (lt_of_block B1.out)).trans B1.out
  have f0 : w1.cell? ⟨w.heap.size, 1, none⟩ = some (.slice a1 B.length c1) := cell_of_block e0 1
  have f1 : w1.cell? ⟨w.heap.size + 1, 1, none⟩ = some (.slice a3 D.length c3) := cell_of_block e1 1
  have Hp1 := hid hp1
  clear e0 e1 hp1
  cases X with
  | false =>
    go_wp2
    go_ret
    exact ⟨rfl, hp.out w1 Hp1.out⟩
  | true =>
    go_wp2_with fail
    refine (s2.out w1 Hp1.out).mono ?_
    rintro e w2 ⟨rfl, hp2⟩
    have Hp2 := hid ((hp.out w1 Hp1.out).then_ hp2)
    clear hp2
    go_wp2
    go_ret
    exact ⟨rfl, Hp2.out⟩

end Go.Proofs.YtdlpnhfgjficgaaGreat
