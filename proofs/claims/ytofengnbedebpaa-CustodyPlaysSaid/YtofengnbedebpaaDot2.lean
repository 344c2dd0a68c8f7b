/- ref03: Bytes, Row. -/
import Derived.Test.YtofengnbedebpaaDot
namespace Go.Proofs.Ytofengnbedebpaa
open Go.RowKit Go.Maps

def dotB (d : Dot) : List UInt8 := num d.1.toNat ++ num d.2.toNat
def Small (d : Dot) : Prop := 0 ≤ d.1 ∧ d.1 < 9223372036854775808 ∧ 0 ≤ d.2 ∧ d.2 < 9223372036854775808
def rowB (l : List Dot) : List UInt8 := num l.length ++ l.flatMap dotB
theorem dotB_len (d : Dot) (h : Small d) : (dotB d).length ≤ 20 := by
  have h1 := num_len d.1.toNat (by have := h.2.1; omega)
  have h2 := num_len d.2.toNat (by have := h.2.2.2; omega)
  simp [dotB]; omega

set_option maxRecDepth 8000 in
set_option maxHeartbeats 1000000 in
theorem rdbytes_any (d : Dot) (w : World) (h : Small d) :
    Calls Try.prog 30 #[dv d] w fun r w' => r = .returned (.string (bs (dotB d))) ∧ Pure w w' := by
  obtain ⟨x, y⟩ := d
  obtain ⟨h1, h2, h3, h4⟩ := h
  dsimp only at h1 h2 h3 h4
  have hc : ∀ W : World, Pure w W → W.cell? ⟨w.heap.size, 0, none⟩ = some (.int .i64 x) ∧ W.cell? ⟨w.heap.size, 1, none⟩ = some (.int .i64 y) → (W.cell? ⟨w.heap.size, 0, none⟩ = some (.int .i64 x) ∧ W.cell? ⟨w.heap.size, 1, none⟩ = some (.int .i64 y) ∧ Pure w W) := fun W a b => ⟨b.1, b.2, a⟩
  have hx := hid (fun W => rint_any x W h1 h2)
  have hy := hid (fun W => rint_any y W h3 h4)
  have l1 := num_len x.toNat (by omega)
  have l2 := num_len y.toNat (by omega)
  have hns : ¬ 9223372036854775807 < (bs (num x.toNat)).size + (bs (num y.toNat)).size := by rw [bs_size, bs_size]; omega
  have happ := hid (bs_append (num x.toNat) (num y.toNat))
  unfold dotB dv
  dsimp only
  clear h1 h2 h3 h4 l1 l2 hc
  generalize bs (num x.toNat) = X at *
  generalize bs (num y.toNat) = Y at *
  have hst := hid (show (w.alloc (.cells #[.int .i64 x, .int .i64 y] 67)).drew.cell? ⟨w.heap.size, 0, none⟩ = some (.int .i64 x) ∧ (w.alloc (.cells #[.int .i64 x, .int .i64 y] 67)).drew.cell? ⟨w.heap.size, 1, none⟩ = some (.int .i64 y) ∧ Pure w (w.alloc (.cells #[.int .i64 x, .int .i64 y] 67)).drew from ⟨by simp, by simp, ((Below.refl _ _).alloc (Nat.le_refl _) _).drew⟩)
  have hkeep : Hid (∀ W W' : World, Pure W W' → (W.cell? ⟨w.heap.size, 0, none⟩ = some (.int .i64 x) ∧ W.cell? ⟨w.heap.size, 1, none⟩ = some (.int .i64 y) ∧ Pure w W) → (W'.cell? ⟨w.heap.size, 0, none⟩ = some (.int .i64 x) ∧ W'.cell? ⟨w.heap.size, 1, none⟩ = some (.int .i64 y) ∧ Pure w W')) := fun W W' hp ⟨a, b, c⟩ =>
    ⟨(hp.cell (World.block_lt_of_cell? W _ a)).trans a, (hp.cell (World.block_lt_of_cell? W _ b)).trans b, c.then_ hp⟩
  go_enter Try.func30, Try.ntmps30
  go_wp2_with fail
  go_region_held3 (fun W => W.cell? ⟨w.heap.size, 0, none⟩ = some (.int .i64 x) ∧ W.cell? ⟨w.heap.size, 1, none⟩ = some (.int .i64 y) ∧ Pure w W)
    (first | exact hst.out | exact hkeep.out _ _ (by assumption) (by assumption))
    (first
      | (go_at_call 29; refine (hx.out _).mono ?_; rintro e w1 ⟨rfl, hp1⟩)
      | (go_at_call 29; refine (hy.out _).mono ?_; rintro e w1 ⟨rfl, hp1⟩))
  have hx' := hid (show w1.cell? ⟨w.heap.size, 0, none⟩ = some (.int .i64 x) ∧ w1.cell? ⟨w.heap.size, 1, none⟩ = some (.int .i64 y) ∧ Pure w w1 from by assumption)
  go_wp2
  go_ret
  exact ⟨congrArg (fun z => Ending.returned (.string z)) happ.out, hx'.out.2.2⟩
end Go.Proofs.Ytofengnbedebpaa
