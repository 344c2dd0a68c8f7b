/- law04: awake. -/
import Derived.Test.YtimcjkimehhgcaaMQa
namespace Go.Proofs.Ytimcjkimehhgcaa
open Go.RowKit Go.Maps Go.Shelf Go.Sort

theorem aw_add : cjoin [(1, 3)] [(1, 5)] [] (dsort ([((1 : Int), (4 : Int))].filter dchk)) = ([(1, 5)], []) := by decide
theorem aw_h1 : chas [(1, 3)] [(1, 5)] (1, 3) = true := by decide
theorem aw_h2 : chas [(1, 3)] [(1, 5)] (1, 4) = false := by decide
theorem aw_h3 : chas [(1, 3)] [(1, 5)] (1, 5) = true := by decide
theorem aw_n1 : cnx [(1, 3)] [(1, 5)] 1 = 5 := by decide
theorem aw_n2 : cnx [(1, 3)] [(1, 5)] 2 = 0 := by decide
theorem aw_rise (d : Dot) : Rise [d] := List.pairwise_singleton _ _
theorem aw_ok : JOk [((1 : Int), (3 : Int))] [((1 : Int), (5 : Int))] := ⟨aw_rise _, by decide, by decide, by decide, by decide⟩

theorem field_dot0 (W : World) (x y : Int) : (Instr.field 30 (.agg #[.int .i64 x, .int .i64 y]) 0).run Try.prog W = .ok (.int .i64 x) W := by kernel_rfl
theorem field_dot1 (W : World) (x y : Int) : (Instr.field 30 (.agg #[.int .i64 x, .int .i64 y]) 1).run Try.prog W = .ok (.int .i64 y) W := by kernel_rfl
set_option maxRecDepth 8000 in
set_option maxHeartbeats 2000000 in
theorem awake_any (w : World) : Calls Try.prog 9 #[] w fun e w' => e = .returned (.bool true) ∧ Pure w w' := by
  obtain ⟨wa, hwa⟩ : ∃ wa, wa = w.alloc (.cells #[.int .i64 1, .int .i64 3] 30) := ⟨_, rfl⟩
  obtain ⟨wb, hwb⟩ : ∃ wb, wb = wa.alloc (.cells #[.int .i64 1, .int .i64 5] 30) := ⟨_, rfl⟩
  obtain ⟨wc, hwc⟩ : ∃ wc, wc = wb.alloc (.cells #[.slice (some ⟨w.heap.size, 0, none⟩) 1 1, .slice (some ⟨w.heap.size + 1, 0, none⟩) 1 1] 24) := ⟨_, rfl⟩
  obtain ⟨wd, hwd⟩ : ∃ wd, wd = wc.alloc (.cells #[.int .i64 1, .int .i64 4] 30) := ⟨_, rfl⟩
  have sa : wa.heap.size = w.heap.size + 1 := by rw [hwa]; simp
  have sb : wb.heap.size = w.heap.size + 1 + 1 := by rw [hwb]; simp [sa]
  have sc : wc.heap.size = w.heap.size + 1 + 1 + 1 := by rw [hwc]; simp [sb]
  have pa : Pure w wa := by rw [hwa]; exact (Below.refl _ _).alloc (Nat.le_refl _) _
  have pb : Pure wa wb := by rw [hwb]; exact (Below.refl _ _).alloc (Nat.le_refl _) _
  have pc : Pure wb wc := by rw [hwc]; exact (Below.refl _ _).alloc (Nat.le_refl _) _
  have pd : Pure wc wd := by rw [hwd]; exact (Below.refl _ _).alloc (Nat.le_refl _) _
  have r0 : Dots wa (.slice (some ⟨w.heap.size, 0, none⟩) 1 1) [(1, 3)] := by rw [hwa]; exact dots_lit w 1 3
  have r1 : Dots wb (.slice (some ⟨w.heap.size + 1, 0, none⟩) 1 1) [(1, 5)] := by rw [hwb, ← sa]; exact dots_lit wa 1 5
  have r2 : Dots wd (.slice (some ⟨w.heap.size + 1 + 1 + 1, 0, none⟩) 1 1) [(1, 4)] := by rw [hwd, ← sc]; exact dots_lit wc 1 4
  have hc : wc.heap[w.heap.size + 1 + 1]? = some (.cells #[.slice (some ⟨w.heap.size, 0, none⟩) 1 1, .slice (some ⟨w.heap.size + 1, 0, none⟩) 1 1] 24 (0, 0)) := by rw [hwc, ← sb]; exact block_alloc_new _ _
  have HC := hid (fun W (hW : Pure wd W) => (show W.cell? ⟨w.heap.size + 1 + 1, 0, none⟩ = some (.slice (some ⟨w.heap.size, 0, none⟩) 1 1) ∧ W.cell? ⟨w.heap.size + 1 + 1, 1, none⟩ = some (.slice (some ⟨w.heap.size + 1, 0, none⟩) 1 1) from by
    have e0 := ((pd.then_ hW).block _ (lt_of_block hc)).trans hc
    exact ⟨cell_of_block e0 0, cell_of_block e0 1⟩))
  have HB := hid (fun W (hW : Pure wd W) => (Row.pure r0 (pb.then_ (pc.then_ (pd.then_ hW))) : Dots W (.slice (some ⟨w.heap.size, 0, none⟩) 1 1) [(1, 3)]))
  have HK := hid (fun W (hW : Pure wd W) => (Row.pure r1 (pc.then_ (pd.then_ hW)) : Dots W (.slice (some ⟨w.heap.size + 1, 0, none⟩) 1 1) [(1, 5)]))
  have Hp := hid (pa.then_ (pb.then_ (pc.then_ pd)))
  have Hadd := hid (add_any _ _ _ [(1, 3)] [(1, 5)] [(1, 4)] wd (HB.out wd (Below.refl _ _)) (HK.out wd (Below.refl _ _)) r2 (by decide) aw_ok)
  unfold CtxF cv at Hadd
  rw [aw_add] at Hadd
  have Hhas := hid (fun W d (hW : Pure wd W) => has_any _ _ [(1, 3)] [(1, 5)] d W (HB.out W hW) (HK.out W hW) (aw_rise _) (aw_rise _) (by decide) (by decide) (by decide))
  have Hnext := hid (fun W n (hW : Pure wd W) => next_any _ _ [(1, 3)] [(1, 5)] n W (HB.out W hW) (HK.out W hW) (by decide) (by decide) aw_ok (aw_rise _))
  unfold dv cv at Hhas Hnext
  dsimp only at Hhas Hnext
  clear r0 r1 r2 hc pa pb pc pd sa sb sc
  have hf1 := field_dot1
  go_enter Try.func9, Try.ntmps9
  go_wp2_with fail
  rw [← hwa, ← hwb, ← hwc, ← hwd]
  clear hwa hwb hwc hwd
  refine Hadd.out.mono ?_
  rintro e w1 ⟨v0, v1, rfl, hd0, hd1, hp1, _, _⟩
  obtain ⟨a0, c0, rfl⟩ := hd0.shape
  obtain ⟨a1, c1, rfl⟩ := hd1.shape
  obtain ⟨b, off, rfl, _, _, x1⟩ := hd0.get (k := 0) (by decide)
  obtain ⟨w2, hw2⟩ : ∃ w2, w2 = w1.alloc (.cells #[.slice (some ⟨b, off, none⟩) 1 c0, .slice a1 0 c1] 24) := ⟨_, rfl⟩
  have hp12 : Pure w1 w2 := by rw [hw2]; exact (Below.refl _ _).alloc (Nat.le_refl _) _
  have hb2 : w2.heap[w1.heap.size]? = some (.cells #[.slice (some ⟨b, off, none⟩) 1 c0, .slice a1 0 c1] 24 (0, 0)) := by rw [hw2]; exact block_alloc_new _ _
  have HD := hid (fun W (hW : Pure w2 W) => (show W.cell? ⟨w1.heap.size, 0, none⟩ = some (.slice (some ⟨b, off, none⟩) 1 c0) ∧ W.cell? ⟨w1.heap.size, 1, none⟩ = some (.slice a1 0 c1) ∧ W.cell? ⟨b, off + 1, none⟩ = some (.int .i64 5) from by
    have e0 := (hW.block _ (lt_of_block hb2)).trans hb2
    exact ⟨cell_of_block e0 0, cell_of_block e0 1, ((hp12.then_ hW).cell (World.block_lt_of_cell? w1 _ x1)).trans x1⟩))
  have Hp2 := hid (hp1.then_ hp12)
  obtain ⟨f0, f1⟩ := HC.out w2 Hp2.out
  clear hd0 hd1 hp1 hp12 hb2 x1 Hadd
  rw [hw2] at f0 f1
  go_wp2_with fail
  rw [← hw2]
  clear hw2 f0 f1
  refine (Hhas.out w2 (1, 3) Hp2.out).mono ?_
  rintro e w3 ⟨rfl, hp3⟩
  rw [aw_h1]
  have Hp3 := hid hp3
  have Hq3 := hid (Hp2.out.then_ hp3)
  obtain ⟨f0, f1⟩ := HC.out w3 Hq3.out
  clear hp3
  go_wp2_with fail
  refine (Hhas.out w3 (1, 4) Hq3.out).mono ?_
  rintro e w4 ⟨rfl, hp4⟩
  rw [aw_h2]
  have Hp4 := hid (Hp3.out.then_ hp4)
  have Hq4 := hid (Hq3.out.then_ hp4)
  clear f0 f1
  obtain ⟨f0, f1⟩ := HC.out w4 Hq4.out
  clear hp4
  go_wp2_with fail
  refine (Hhas.out w4 (1, 5) Hq4.out).mono ?_
  rintro e w5 ⟨rfl, hp5⟩
  rw [aw_h3]
  have Hp5 := hid (Hp4.out.then_ hp5)
  have Hq5 := hid (Hq4.out.then_ hp5)
  clear f0 f1
  obtain ⟨f0, f1⟩ := HC.out w5 Hq5.out
  obtain ⟨d0, d1, d2⟩ := HD.out w5 Hp5.out
  clear hp5
  go_wp2_with fail
  refine (Hnext.out w5 1 Hq5.out).mono ?_
  rintro e w6 ⟨rfl, hp6⟩
  rw [aw_n1]
  have Hq6 := hid (Hq5.out.then_ hp6)
  clear f0 f1 d0 d1 d2
  obtain ⟨f0, f1⟩ := HC.out w6 Hq6.out
  clear hp6
  go_wp2_with fail
  refine (Hnext.out w6 2 Hq6.out).mono ?_
  rintro e w7 ⟨rfl, hp7⟩
  rw [aw_n2]
  have Hq7 := hid (Hp.out.then_ (Hq6.out.then_ hp7))
  clear f0 f1 hp7
  go_wp2
  go_ret
  exact ⟨rfl, Hq7.out⟩
end Go.Proofs.Ytimcjkimehhgcaa
