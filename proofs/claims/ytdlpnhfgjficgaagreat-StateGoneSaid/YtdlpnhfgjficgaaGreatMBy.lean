/- The program's dot.Bytes, dot.Row, ctx.Bytes. The program's bag.Bytes. -/
import Derived.Test.YtdlpnhfgjficgaaGreatMNum
namespace Go.Proofs.YtdlpnhfgjficgaaGreat
open Go.RowKit Go.Maps

set_option maxRecDepth 8000 in
set_option maxHeartbeats 1000000 in
theorem mdbytes_any (d : Dot) (w : World) (h : Small d) :
    Calls Tryz.prog 127 #[dv d] w fun r w' => r = .returned (.string (bs (dotB d))) ∧ Pure w w' := by
  obtain ⟨x, y⟩ := d
  obtain ⟨h1, h2, h3, h4⟩ := h
  dsimp only at h1 h2 h3 h4
  have hc : ∀ W : World, Pure w W → W.cell? ⟨w.heap.size, 0, none⟩ = some (.int .i64 x) ∧ W.cell? ⟨w.heap.size, 1, none⟩ = some (.int .i64 y) → (W.cell? ⟨w.heap.size, 0, none⟩ = some (.int .i64 x) ∧ W.cell? ⟨w.heap.size, 1, none⟩ = some (.int .i64 y) ∧ Pure w W) := fun W a b => ⟨b.1, b.2, a⟩
  have hx := hid (fun W => mint_any x W h1 h2)
  have hy := hid (fun W => mint_any y W h3 h4)
  have l1 := num_len x.toNat (by omega)
  have l2 := num_len y.toNat (by omega)
  have hns : ¬ 9223372036854775807 < (bs (num x.toNat)).size + (bs (num y.toNat)).size := by rw [bs_size, bs_size]; omega
  have happ := hid (bs_append (num x.toNat) (num y.toNat))
  unfold dotB dv
  dsimp only
  clear h1 h2 h3 h4 l1 l2 hc
  generalize bs (num x.toNat) = X at *
  generalize bs (num y.toNat) = Y at *
  have hst := hid (show (w.alloc (.cells #[.int .i64 x, .int .i64 y] 28)).drew.cell? ⟨w.heap.size, 0, none⟩ = some (.int .i64 x) ∧ (w.alloc (.cells #[.int .i64 x, .int .i64 y] 28)).drew.cell? ⟨w.heap.size, 1, none⟩ = some (.int .i64 y) ∧ Pure w (w.alloc (.cells #[.int .i64 x, .int .i64 y] 28)).drew from ⟨by simp, by simp, ((Below.refl _ _).alloc (Nat.le_refl _) _).drew⟩)
  have hkeep : Hid (∀ W W' : World, Pure W W' → (W.cell? ⟨w.heap.size, 0, none⟩ = some (.int .i64 x) ∧ W.cell? ⟨w.heap.size, 1, none⟩ = some (.int .i64 y) ∧ Pure w W) → (W'.cell? ⟨w.heap.size, 0, none⟩ = some (.int .i64 x) ∧ W'.cell? ⟨w.heap.size, 1, none⟩ = some (.int .i64 y) ∧ Pure w W')) := fun W W' hp ⟨a, b, c⟩ =>
    ⟨(hp.cell (World.block_lt_of_cell? W _ a)).trans a, (hp.cell (World.block_lt_of_cell? W _ b)).trans b, c.then_ hp⟩
  go_enter Tryz.func127, Tryz.ntmps127
  go_wp2_with fail
  go_region_held3 (fun W => W.cell? ⟨w.heap.size, 0, none⟩ = some (.int .i64 x) ∧ W.cell? ⟨w.heap.size, 1, none⟩ = some (.int .i64 y) ∧ Pure w W)
    (first | exact hst.out | exact hkeep.out _ _ (by assumption) (by assumption))
    (first
      | (go_at_call 60; refine (hx.out _).mono ?_; rintro e w1 ⟨rfl, hp1⟩)
      | (go_at_call 60; refine (hy.out _).mono ?_; rintro e w1 ⟨rfl, hp1⟩))
  have hx' := hid (show w1.cell? ⟨w.heap.size, 0, none⟩ = some (.int .i64 x) ∧ w1.cell? ⟨w.heap.size, 1, none⟩ = some (.int .i64 y) ∧ Pure w w1 from by assumption)
  go_wp2
  go_ret
  exact ⟨congrArg (fun z => Ending.returned (.string z)) happ.out, hx'.out.2.2⟩

end Go.Proofs.YtdlpnhfgjficgaaGreat

namespace Go.Proofs.YtdlpnhfgjficgaaGreat
open Go.RowKit Go.Maps

end Go.Proofs.YtdlpnhfgjficgaaGreat

