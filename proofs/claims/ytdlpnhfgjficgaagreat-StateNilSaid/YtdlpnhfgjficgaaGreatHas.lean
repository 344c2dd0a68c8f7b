/- ref04's Has. -/
import Derived.Test.YtdlpnhfgjficgaaGreatAdd
import Derived.Test.YtdlpnhfgjficgaaGreatSame
namespace Go.Proofs.YtdlpnhfgjficgaaGreat
open Go.RowKit Go.Maps

def chas (B C : List Dot) (d : Dot) : Bool := dchk d && (decide (d.2 ≤ cbase B d.1) || decide (d ∈ C))

set_option maxRecDepth 8000 in
set_option maxHeartbeats 2000000 in
theorem rchas_any (vb vc : Value) (B C : List Dot) (d : Dot) (w : World) (h1 : Dots w vb B) (h2 : Dots w vc C) :
    Calls Tryz.prog 102 #[.agg #[vb, vc], dv d] w fun e w' => e = .returned (.bool (chas B C d)) ∧ Pure w w' := by
  obtain ⟨x, y⟩ := d
  obtain ⟨a0, c0, rfl⟩ := h1.shape
  obtain ⟨a1, c1, rfl⟩ := h2.shape
  obtain ⟨wz, hwz⟩ : ∃ wz, wz = (w.alloc (.cells #[.slice a0 B.length c0, .slice a1 C.length c1] 32)).alloc (.cells #[.int .i64 x, .int .i64 y] 28) := ⟨_, rfl⟩
  have Hwz := hid (show Pure w wz from by rw [hwz]; exact ((Below.refl _ _).alloc (Nat.le_refl _) _).alloc (by simp) _)
  have b0 : wz.heap[w.heap.size]? = some (.cells #[.slice a0 B.length c0, .slice a1 C.length c1] 32 (0, 0)) := by rw [hwz]; exact block_alloc_old (block_alloc_new _ _) _
  have b1 : wz.heap[w.heap.size + 1]? = some (.cells #[.int .i64 x, .int .i64 y] 28 (0, 0)) := by
    rw [hwz]; have := block_alloc_new (w.alloc (.cells #[.slice a0 B.length c0, .slice a1 C.length c1] 32)) (.cells #[.int .i64 x, .int .i64 y] 28)
    simpa using this
  have hp := hid (fun W (hW : Pure wz W) => Hwz.out.then_ hW)
  have hS : Hid (∀ W, Pure wz W → (W.cell? ⟨w.heap.size, 0, none⟩ = some (.slice a0 B.length c0) ∧ W.cell? ⟨w.heap.size, 1, none⟩ = some (.slice a1 C.length c1) ∧ W.cell? ⟨w.heap.size + 1, 0, none⟩ = some (.int .i64 x) ∧ W.cell? ⟨w.heap.size + 1, 1, none⟩ = some (.int .i64 y) ∧ Pure wz W)) := fun W hW => by
    have e0 := (hW.block _ (lt_of_block b0)).trans b0
    have e1 := (hW.block _ (lt_of_block b1)).trans b1
    exact ⟨cell_of_block e0 0, cell_of_block e0 1, cell_of_block e1 0, cell_of_block e1 1, hW⟩
  have hS2 : Hid (∀ W : World, (W.cell? ⟨w.heap.size, 0, none⟩ = some (.slice a0 B.length c0) ∧ W.cell? ⟨w.heap.size, 1, none⟩ = some (.slice a1 C.length c1) ∧ W.cell? ⟨w.heap.size + 1, 0, none⟩ = some (.int .i64 x) ∧ W.cell? ⟨w.heap.size + 1, 1, none⟩ = some (.int .i64 y) ∧ Pure wz W) → Pure wz W) := fun W h => h.2.2.2.2
  have hc := hid (fun W => rchk_any (x, y) W)
  have hh := hid (fun W (hW : Pure wz W) => rdhas_any (.slice a1 C.length c1) C (x, y) W (Row.pure h2 (hp.out W hW)))
  have hb := hid (fun W (hW : Pure wz W) => rbase_any (.slice a0 B.length c0) (.slice a1 C.length c1) B x W (Row.pure h1 (hp.out W hW)))
  unfold chas
  unfold dv at *
  dsimp only at hc hh ⊢
  clear h1 h2 b0 b1
  generalize dchk (x, y) = I at *
  generalize decide ((x, y) ∈ C) = M at *
  generalize cbase B x = n at *
  go_enter Tryz.func102, Tryz.ntmps102
  go_wp2_with fail
  rw [← hwz]
  clear hwz
  refine (hc.out wz).mono ?_
  rintro e w1 ⟨rfl, hp1⟩
  obtain ⟨f0, f1, f2, f3, _⟩ := hS.out w1 hp1
  have Hp1 := hid hp1
  clear hp1
  go_wp2_with fail
  refine (hh.out w1 Hp1.out).mono ?_
  rintro e w2 ⟨rfl, hp2⟩
  have Hp2 := hid (Hp1.out.then_ hp2)
  clear f0 f1 f2 f3 hp2
  obtain ⟨f0, f1, f2, f3, _⟩ := hS.out w2 Hp2.out
  cases I with
  | false =>
    go_wp2_with fail
    go_quiet (fail)
    go_wp2
    go_ret
    exact ⟨rfl, hp.out _ (Hp2.out.then_ (pure_drewN _ _))⟩
  | true =>
    have hst := hid (hS.out w2.drew (Hp2.out.then_ (Below.refl _ _).drew))
    clear f0 f1 f2 f3
    by_cases hle : y ≤ n
    · have hle' : decide (y ≤ n) = true := by simpa using hle
      have Hle := hid hle'
      go_wp2_with fail
      have Hd := hid (Hp2.out.then_ (Below.refl _ _).drew)
      obtain ⟨f0, f1, f2, f3, _⟩ := hS.out w2 Hp2.out
      clear hst
      first
      | go_region_with (first | (go_at_call 108; with_reducible refine (hb.out _ Hd.out).mono ?_; rintro e w7 ⟨rfl, hp7⟩; obtain ⟨g0, g1, g2, g3, hx7⟩ := hS.out w7 (Hd.out.then_ hp7); have Hx7 := hid hx7; clear hp7 hx7))
      | fail
      all_goals
        have hx := hid (hp.out w7 Hx7.out)
        go_wp2
        go_ret
        exact ⟨ret_bool (by rw [Hle.out]; simp), hx.out⟩
    · have hle' : decide (y ≤ n) = false := by simp; omega
      go_wp2_with fail
      go_region_held3 (fun W => W.cell? ⟨w.heap.size, 0, none⟩ = some (.slice a0 B.length c0) ∧ W.cell? ⟨w.heap.size, 1, none⟩ = some (.slice a1 C.length c1) ∧ W.cell? ⟨w.heap.size + 1, 0, none⟩ = some (.int .i64 x) ∧ W.cell? ⟨w.heap.size + 1, 1, none⟩ = some (.int .i64 y) ∧ Pure wz W)
        (first | with_reducible exact hst.out | with_reducible exact hS.out _ (Pure.then_ (hS2.out _ (by assumption)) (by assumption)))
        (first | (go_at_call 108; with_reducible refine (hb.out _ (hS2.out _ (by assumption))).mono ?_; rintro e w7 ⟨rfl, hp7⟩))
      have hx := hid (hp.out w7 (hS2.out _ (by assumption)))
      clear hp7 hst
      go_wp2
      go_ret
      exact ⟨ret_bool (by rw [hle']; simp), hx.out⟩
end Go.Proofs.YtdlpnhfgjficgaaGreat
