/- The program's dot.Bytes, dot.Row, ctx.Bytes. -/
import Derived.Test.YtcjggofcmjpfnaaGreatNumW
namespace Go.Proofs.YtcjggofcmjpfnaaGreat
open Go.RowKit Go.Maps

set_option maxRecDepth 8000 in
set_option maxHeartbeats 1000000 in
theorem mdbytes_any (d : Dot) (w : World) (h : Small d) :
    Calls Tryz.prog 98 #[dv d] w fun r w' => r = .returned (.string (bs (dotB d))) ∧ Pure w w' := by
  obtain ⟨x, y⟩ := d
  obtain ⟨h1, h2, h3, h4⟩ := h
  dsimp only at h1 h2 h3 h4
  have hc : ∀ W : World, Pure w W → W.cell? ⟨w.heap.size, 0, none⟩ = some (.int .i64 x) ∧ W.cell? ⟨w.heap.size, 1, none⟩ = some (.int .i64 y) → (W.cell? ⟨w.heap.size, 0, none⟩ = some (.int .i64 x) ∧ W.cell? ⟨w.heap.size, 1, none⟩ = some (.int .i64 y) ∧ Pure w W) := fun W a b => ⟨b.1, b.2, a⟩
  have hx := hid (fun W => mint_any x W h1 h2)
  have hy := hid (fun W => mint_any y W h3 h4)
  have l1 := num_len x.toNat (by omega)
  have l2 := num_len y.toNat (by omega)
  have hns : ¬ 9223372036854775807 < (bs (num x.toNat)).size + (bs (num y.toNat)).size := by rw [bs_size, bs_size]; omega
  have happ := hid (bs_append (num x.toNat) (num y.toNat))
  unfold dotB dv
  dsimp only
  clear h1 h2 h3 h4 l1 l2 hc
  generalize bs (num x.toNat) = X at *
  generalize bs (num y.toNat) = Y at *
  have hst := hid (show (w.alloc (.cells #[.int .i64 x, .int .i64 y] 55)).drew.cell? ⟨w.heap.size, 0, none⟩ = some (.int .i64 x) ∧ (w.alloc (.cells #[.int .i64 x, .int .i64 y] 55)).drew.cell? ⟨w.heap.size, 1, none⟩ = some (.int .i64 y) ∧ Pure w (w.alloc (.cells #[.int .i64 x, .int .i64 y] 55)).drew from ⟨by simp, by simp, ((Below.refl _ _).alloc (Nat.le_refl _) _).drew⟩)
  have hkeep : Hid (∀ W W' : World, Pure W W' → (W.cell? ⟨w.heap.size, 0, none⟩ = some (.int .i64 x) ∧ W.cell? ⟨w.heap.size, 1, none⟩ = some (.int .i64 y) ∧ Pure w W) → (W'.cell? ⟨w.heap.size, 0, none⟩ = some (.int .i64 x) ∧ W'.cell? ⟨w.heap.size, 1, none⟩ = some (.int .i64 y) ∧ Pure w W')) := fun W W' hp ⟨a, b, c⟩ =>
    ⟨(hp.cell (World.block_lt_of_cell? W _ a)).trans a, (hp.cell (World.block_lt_of_cell? W _ b)).trans b, c.then_ hp⟩
  go_enter Tryz.func98, Tryz.ntmps98
  go_wp2_with fail
  go_region_held3 (fun W => W.cell? ⟨w.heap.size, 0, none⟩ = some (.int .i64 x) ∧ W.cell? ⟨w.heap.size, 1, none⟩ = some (.int .i64 y) ∧ Pure w W)
    (first | exact hst.out | exact hkeep.out _ _ (by assumption) (by assumption))
    (first
      | (go_at_call 97; refine (hx.out _).mono ?_; rintro e w1 ⟨rfl, hp1⟩)
      | (go_at_call 97; refine (hy.out _).mono ?_; rintro e w1 ⟨rfl, hp1⟩))
  have hx' := hid (show w1.cell? ⟨w.heap.size, 0, none⟩ = some (.int .i64 x) ∧ w1.cell? ⟨w.heap.size, 1, none⟩ = some (.int .i64 y) ∧ Pure w w1 from by assumption)
  go_wp2
  go_ret
  exact ⟨congrArg (fun z => Ending.returned (.string z)) happ.out, hx'.out.2.2⟩

set_option maxRecDepth 8000 in
set_option maxHeartbeats 1000000 in
theorem mrow_any (v : Value) (l : List Dot) (w : World) (hr : Dots w v l) (hs : ∀ d ∈ l, Small d) (hl : l.length ≤ 1000000) :
    Calls Tryz.prog 111 #[v] w fun r w' => r = .returned (.string (bs (rowB l))) ∧ Pure w w' := by
  obtain ⟨a, cap, rfl⟩ := hr.shape
  have Hr := hid hr
  have Hs := hid hs
  have hi := hid (mint_any l.length w (by omega) (by omega))
  unfold rowB
  clear hr hs
  go_enter Tryz.func111, Tryz.ntmps111
  go_wp2_with (go_at_call 97; refine hi.out.mono ?_; rintro e w1 ⟨rfl, hp1⟩; have Hp1 := hid hp1; clear hp1)
  go_loopw [3, 5, 11] (fun s _ i wr => ∃ k : Nat, k ≤ l.length ∧ i = .int .i64 k ∧ s = .string (bs (num l.length ++ (l.take k).flatMap dotB)) ∧ Pure w wr) (fun _ _ i _ => l.length - (RowKit.intOf i).toNat)
  case atStart => exact ⟨0, Nat.zero_le _, rfl, by simp, Hp1.out⟩
  case round =>
    obtain ⟨k, hk, rfl, rfl, hp⟩ := hrel
    by_cases hlt : k < l.length
    · obtain ⟨b, off, rfl, hb, c0, c1⟩ := Dots.get (show Dots wr (.slice a l.length cap) l from Row.pure Hr.out hp) hlt
      have hlt' : (k : Int) < (l.length : Int) := by omega
      have Hstep := hid (rowB_take l k hlt)
      have hsm := Hs.out _ (mem_get_d hlt)
      have hb1 := dotB_len _ hsm
      have hb2 : ((l.take k).flatMap dotB).length ≤ 20000000 := Nat.le_trans (flatB_len (l.take k) (fun d hd => Hs.out d (List.mem_of_mem_take hd))) (by rw [List.length_take]; omega)
      have hb3 := num_len l.length (by omega)
      have hcall := hid (fun W => mdbytes_any (l.getD k (0, 0)) W hsm)
      have Hp := hid hp
      clear hp hsm
      generalize hze : l.getD k (0, 0) = z at *
      obtain ⟨z1, z2⟩ := z
      dsimp only at c0 c1
      have hns : ¬ 9223372036854775807 < (bs (num l.length ++ (l.take k).flatMap dotB)).size + (bs (dotB (z1, z2))).size := by rw [bs_size, bs_size, List.length_append]; omega
      have happ := hid (bs_append (num l.length ++ (l.take k).flatMap dotB) (dotB (z1, z2)))
      clear hb1 hb2 hb3 hze
      unfold dv at hcall
      generalize bs (dotB (z1, z2)) = Z at *
      generalize hS : bs (num l.length ++ (l.take k).flatMap dotB) = S at *
      clear hS
      go_wp2_with (go_at_call 98; refine (hcall.out _).mono ?_; rintro e w2 ⟨rfl, hp2⟩; have Hp2 := hid hp2; clear hp2)
      go_roundw
      case rel => exact ⟨k + 1, by omega, by go_num, by rw [Hstep.out, ← happ.out], (Hp.out.alloc Hp.out.size _).trans (Hp2.out.mono (by have := Hp.out.size; simp; omega))⟩
      case measure => simp [RowKit.intOf]; omega
    · have hlt' : ¬ (k : Int) < (l.length : Int) := by omega
      have e : l.take k = l := List.take_of_length_le (by omega)
      rw [e]
      have Hp := hid hp
      clear hp e
      go_wp2
      go_ret
      exact ⟨rfl, Hp.out⟩

set_option maxRecDepth 8000 in
set_option maxHeartbeats 2000000 in
theorem mcbytes_any (vb vc : Value) (B C : List Dot) (w : World) (hB : Dots w vb B) (hC : Dots w vc C) (sB : ∀ d ∈ B, Small d) (sC : ∀ d ∈ C, Small d) (lB : B.length ≤ 100000) (lC : C.length ≤ 100000) :
    Calls Tryz.prog 96 #[.agg #[vb, vc]] w fun r w' => r = .returned (.string (bs (ctxB B C))) ∧ Pure w w' := by
  obtain ⟨a, cap, rfl⟩ := hB.shape
  obtain ⟨a', cap', rfl⟩ := hC.shape
  have hx := hid (fun W (hW : Pure w W) => mrow_any _ B W (show Dots W (.slice a B.length cap) B from Row.pure hB hW) sB (by omega))
  have hy := hid (fun W (hW : Pure w W) => mrow_any _ C W (show Dots W (.slice a' C.length cap') C from Row.pure hC hW) sC (by omega))
  have l1 := rowB_len B sB lB
  have l2 := rowB_len C sC lC
  have hns : ¬ 9223372036854775807 < (bs (rowB B)).size + (bs (rowB C)).size := by rw [bs_size, bs_size]; omega
  have happ := hid (bs_append (rowB B) (rowB C))
  unfold ctxB
  clear hB hC l1 l2 sB sC lB lC
  generalize bs (rowB B) = X at *
  generalize bs (rowB C) = Y at *
  have hst := hid (show (w.alloc (.cells #[.slice a B.length cap, .slice a' C.length cap'] 29)).drew.cell? ⟨w.heap.size, 0, none⟩ = some (.slice a B.length cap) ∧ (w.alloc (.cells #[.slice a B.length cap, .slice a' C.length cap'] 29)).drew.cell? ⟨w.heap.size, 1, none⟩ = some (.slice a' C.length cap') ∧ Pure w (w.alloc (.cells #[.slice a B.length cap, .slice a' C.length cap'] 29)).drew from ⟨by simp, by simp, ((Below.refl _ _).alloc (Nat.le_refl _) _).drew⟩)
  have hkeep : Hid (∀ W W' : World, Pure W W' → (W.cell? ⟨w.heap.size, 0, none⟩ = some (.slice a B.length cap) ∧ W.cell? ⟨w.heap.size, 1, none⟩ = some (.slice a' C.length cap') ∧ Pure w W) → (W'.cell? ⟨w.heap.size, 0, none⟩ = some (.slice a B.length cap) ∧ W'.cell? ⟨w.heap.size, 1, none⟩ = some (.slice a' C.length cap') ∧ Pure w W')) := fun W W' hp ⟨a, b, c⟩ =>
    ⟨(hp.cell (World.block_lt_of_cell? W _ a)).trans a, (hp.cell (World.block_lt_of_cell? W _ b)).trans b, c.then_ hp⟩
  have hS : Hid (∀ W : World, (W.cell? ⟨w.heap.size, 0, none⟩ = some (.slice a B.length cap) ∧ W.cell? ⟨w.heap.size, 1, none⟩ = some (.slice a' C.length cap') ∧ Pure w W) → Pure w W) := fun W h => h.2.2
  go_enter Tryz.func96, Tryz.ntmps96
  go_wp2_with fail
  go_region_held3 (fun W => W.cell? ⟨w.heap.size, 0, none⟩ = some (.slice a B.length cap) ∧ W.cell? ⟨w.heap.size, 1, none⟩ = some (.slice a' C.length cap') ∧ Pure w W)
    (first | with_reducible exact hst.out | with_reducible exact hkeep.out _ _ (by assumption) (by assumption))
    (first
      | (go_at_call 111; with_reducible refine (hx.out _ (hS.out _ (by assumption))).mono ?_; rintro e w1 ⟨rfl, hp1⟩)
      | (go_at_call 111; with_reducible refine (hy.out _ (hS.out _ (by assumption))).mono ?_; rintro e w1 ⟨rfl, hp1⟩))
  have hx' := hid (show w1.cell? ⟨w.heap.size, 0, none⟩ = some (.slice a B.length cap) ∧ w1.cell? ⟨w.heap.size, 1, none⟩ = some (.slice a' C.length cap') ∧ Pure w w1 from by assumption)
  go_wp2
  go_ret
  exact ⟨congrArg (fun z => Ending.returned (.string z)) happ.out, hx'.out.2.2⟩
end Go.Proofs.YtcjggofcmjpfnaaGreat
