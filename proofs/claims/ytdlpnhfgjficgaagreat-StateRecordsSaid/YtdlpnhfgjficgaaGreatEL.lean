/- Born, Reserve, Joined of both at any number. -/
import Derived.Test.YtdlpnhfgjficgaaGreatEK
namespace Go.Proofs.YtdlpnhfgjficgaaGreat
open Go.RowKit Go.Maps Go.Shelf

set_option maxRecDepth 8000 in
set_option maxHeartbeats 2000000 in
theorem mint_neg (n : Int) (w : World) (h0 : n < 0) :
    Calls Tryz.prog 60 #[.int .i64 n] w fun e w' => e = .returned (.string (bs (num 0))) ∧ Pure w w' := by
  have hm := hid (mnum_any 0 w (by omega))
  have hmax : max n 0 = 0 := by omega
  have hwr : IntKind.u64.wrap 0 = 0 := rfl
  go_enter Tryz.func60, Tryz.ntmps60
  go_wp2_with (go_at_call 123; refine hm.out.mono ?_; rintro e w' ⟨rfl, hp⟩; have Hp := hid hp; clear hp)
  go_ret
  exact ⟨by simp, Hp.out⟩

theorem mint_all (n : Int) (w : World) (hn : n < 9223372036854775808) :
    Calls Tryz.prog 60 #[.int .i64 n] w fun e w' => e = .returned (.string (bs (num n.toNat))) ∧ Pure w w' := by
  by_cases h0 : n < 0
  · rw [show n.toNat = 0 by omega]; exact mint_neg n w h0
  · exact mint_any n w (by omega) hn

set_option maxRecDepth 8000 in
set_option maxHeartbeats 2000000 in
theorem rint_neg (n : Int) (w : World) (h0 : n < 0) :
    Calls Tryz.prog 61 #[.int .i64 n] w fun e w' => e = .returned (.string (bs (num 0))) ∧ Pure w w' := by
  have hm := hid (rnum_any 0 w (by omega))
  have hmax : max n 0 = 0 := by omega
  have hwr : IntKind.u64.wrap 0 = 0 := rfl
  go_enter Tryz.func61, Tryz.ntmps61
  go_wp2_with (go_at_call 124; refine hm.out.mono ?_; rintro e w' ⟨rfl, hp⟩; have Hp := hid hp; clear hp)
  go_ret
  exact ⟨by simp, Hp.out⟩

theorem rint_all (n : Int) (w : World) (hn : n < 9223372036854775808) :
    Calls Tryz.prog 61 #[.int .i64 n] w fun e w' => e = .returned (.string (bs (num n.toNat))) ∧ Pure w w' := by
  by_cases h0 : n < 0
  · rw [show n.toNat = 0 by omega]; exact rint_neg n w h0
  · exact rint_any n w (by omega) hn

set_option maxRecDepth 8000 in
set_option maxHeartbeats 2000000 in
theorem sborn_all (n : Int) (w : World) (hn : n < 9223372036854775808) : Calls Tryz.prog 19 #[.int .i64 n] w fun e w' => e = .returned (.string (bs (73 :: num n.toNat))) ∧ Pure w w' := by
  have h := hid (mint_all n w hn)
  have hc := bcat1 73 (num n.toNat)
  have hl : ¬ (9223372036854775807 : Int) < 1 + ((bs (num n.toNat)).size : Int) := by
    rw [bs_size]
    have h1 := num_nd n.toNat (by omega)
    have h2 := nd_le n.toNat (by omega)
    omega
  have hl2 : ¬ 9223372036854775807 < 1 + (bs (num n.toNat)).size := by omega
  clear hn
  generalize num n.toNat = l at *
  go_enter Tryz.func19, Tryz.ntmps19
  go_wp2_with (go_at_call 60; refine h.out.mono ?_; rintro e w1 ⟨rfl, hp1⟩; have Hp1 := hid hp1; clear hp1)
  go_ret
  exact ⟨rfl, Hp1.out⟩
set_option maxRecDepth 8000 in
set_option maxHeartbeats 2000000 in
theorem sreserve_all (n : Int) (w : World) (hn : n < 9223372036854775808) : Calls Tryz.prog 21 #[.int .i64 n] w fun e w' => e = .returned (.string (bs (82 :: num n.toNat))) ∧ Pure w w' := by
  have h := hid (mint_all n w hn)
  have hc := bcat1 82 (num n.toNat)
  have hl : ¬ (9223372036854775807 : Int) < 1 + ((bs (num n.toNat)).size : Int) := by
    rw [bs_size]
    have h1 := num_nd n.toNat (by omega)
    have h2 := nd_le n.toNat (by omega)
    omega
  have hl2 : ¬ 9223372036854775807 < 1 + (bs (num n.toNat)).size := by omega
  clear hn
  generalize num n.toNat = l at *
  go_enter Tryz.func21, Tryz.ntmps21
  go_wp2_with (go_at_call 60; refine h.out.mono ?_; rintro e w1 ⟨rfl, hp1⟩; have Hp1 := hid hp1; clear hp1)
  go_ret
  exact ⟨rfl, Hp1.out⟩
set_option maxRecDepth 8000 in
set_option maxHeartbeats 2000000 in
theorem rborn_all (n : Int) (w : World) (hn : n < 9223372036854775808) : Calls Tryz.prog 20 #[.int .i64 n] w fun e w' => e = .returned (.string (bs (73 :: num n.toNat))) ∧ Pure w w' := by
  have h := hid (rint_all n w hn)
  have hc := bcat1 73 (num n.toNat)
  have hl : ¬ (9223372036854775807 : Int) < 1 + ((bs (num n.toNat)).size : Int) := by
    rw [bs_size]
    have h1 := num_nd n.toNat (by omega)
    have h2 := nd_le n.toNat (by omega)
    omega
  have hl2 : ¬ 9223372036854775807 < 1 + (bs (num n.toNat)).size := by omega
  clear hn
  generalize num n.toNat = l at *
  go_enter Tryz.func20, Tryz.ntmps20
  go_wp2_with (go_at_call 61; refine h.out.mono ?_; rintro e w1 ⟨rfl, hp1⟩; have Hp1 := hid hp1; clear hp1)
  go_ret
  exact ⟨rfl, Hp1.out⟩
set_option maxRecDepth 8000 in
set_option maxHeartbeats 2000000 in
theorem rreserve_all (n : Int) (w : World) (hn : n < 9223372036854775808) : Calls Tryz.prog 22 #[.int .i64 n] w fun e w' => e = .returned (.string (bs (82 :: num n.toNat))) ∧ Pure w w' := by
  have h := hid (rint_all n w hn)
  have hc := bcat1 82 (num n.toNat)
  have hl : ¬ (9223372036854775807 : Int) < 1 + ((bs (num n.toNat)).size : Int) := by
    rw [bs_size]
    have h1 := num_nd n.toNat (by omega)
    have h2 := nd_le n.toNat (by omega)
    omega
  have hl2 : ¬ 9223372036854775807 < 1 + (bs (num n.toNat)).size := by omega
  clear hn
  generalize num n.toNat = l at *
  go_enter Tryz.func22, Tryz.ntmps22
  go_wp2_with (go_at_call 61; refine h.out.mono ?_; rintro e w1 ⟨rfl, hp1⟩; have Hp1 := hid hp1; clear hp1)
  go_ret
  exact ⟨rfl, Hp1.out⟩
set_option maxRecDepth 8000 in
set_option maxHeartbeats 2000000 in
theorem sjoined_all (p : Int) (v0 v1 v2 : Value) (g : Bag) (m : Nat) (w : World) (hr : BR3 v0 v1 v2 g w) (hg : BN m g) (hm : m ≤ 10000) (hp : p < 9223372036854775808) :
    Calls Tryz.prog 23 #[.int .i64 p, .agg #[v0, v1, v2]] w fun e w' => e = .returned (.string (bs (66 :: (num p.toNat ++ bagB g)))) ∧ Pure w w' := by
  have hi := hid (fun W => (show Calls Tryz.prog 60 #[.int .i64 p] W fun e w' => e = .returned (.string (bs (num p.toNat))) ∧ Pure W w' from mint_all p W hp))
  have hb := hid (fun W (hW : Pure w W) => mbbytes_any _ g W (hr.pure hW).at (hg.small hm))
  have l1 := num_len p.toNat (by omega)
  have l2 := bagB_len hg hm
  have hl : ¬ (9223372036854775807 : Int) < 1 + ((bs (num p.toNat)).size : Int) := by rw [bs_size]; omega
  have hl2 : ¬ 9223372036854775807 < 1 + (bs (num p.toNat)).size := by rw [bs_size]; omega
  have hl3 : ¬ (9223372036854775807 : Int) < ((bs (66 :: num p.toNat)).size : Int) + ((bs (bagB g)).size : Int) := by rw [bs_size, bs_size]; simp only [List.length_cons]; omega
  have hl4 : ¬ 9223372036854775807 < (bs (66 :: num p.toNat)).size + (bs (bagB g)).size := by rw [bs_size, bs_size]; simp only [List.length_cons]; omega
  have hc := bcat1 66 (num p.toNat)
  have hc2 := hid (show bs (66 :: num p.toNat) ++ bs (bagB g) = bs (66 :: (num p.toNat ++ bagB g)) from by rw [bs_append]; rfl)
  obtain ⟨wz, hwz⟩ : ∃ wz, wz = w.alloc (.cells #[v0, v1, v2] 34) := ⟨_, rfl⟩
  have Hpz := hid (show Pure w wz from by rw [hwz]; exact (Below.refl _ _).alloc (Nat.le_refl _) _)
  have hbk := hid (show wz.heap[w.heap.size]? = some (.cells #[v0, v1, v2] 34 (0, 0)) from by rw [hwz]; exact block_alloc_new _ _)
  have hS : Hid (∀ W, Pure wz W → (W.cell? ⟨w.heap.size, 0, none⟩ = some v0 ∧ W.cell? ⟨w.heap.size, 1, none⟩ = some v1 ∧ W.cell? ⟨w.heap.size, 2, none⟩ = some v2 ∧ Pure wz W)) := fun W hW => by
    have e := (hW.block _ (lt_of_block hbk.out)).trans hbk.out
    exact ⟨cell_of_block e 0, cell_of_block e 1, cell_of_block e 2, hW⟩
  have hst := hid (hS.out wz.drew (Below.refl _ _).drew)
  have hS2 : Hid (∀ W : World, (W.cell? ⟨w.heap.size, 0, none⟩ = some v0 ∧ W.cell? ⟨w.heap.size, 1, none⟩ = some v1 ∧ W.cell? ⟨w.heap.size, 2, none⟩ = some v2 ∧ Pure wz W) → Pure wz W) := fun W h => h.2.2.2
  clear hr hg l1 l2 hbk hp
  generalize bs (num p.toNat) = A at *
  generalize bs (bagB g) = B at *
  generalize bs (66 :: num p.toNat) = C at *
  go_enter Tryz.func23, Tryz.ntmps23
  go_wp2_with fail
  rw [← hwz]
  clear hwz
  go_region_held3 (fun W => W.cell? ⟨w.heap.size, 0, none⟩ = some v0 ∧ W.cell? ⟨w.heap.size, 1, none⟩ = some v1 ∧ W.cell? ⟨w.heap.size, 2, none⟩ = some v2 ∧ Pure wz W)
    (first | assumption | with_reducible exact hst.out | with_reducible exact hS.out _ (Pure.then_ (hS2.out _ (by assumption)) (by assumption)))
    (first
      | (go_at_call 60; (with_reducible refine (hi.out _).mono ?_); rintro e w2 ⟨rfl, hp2⟩)
      | (go_at_call 62; (with_reducible refine (hb.out _ (Pure.then_ Hpz.out (hS2.out _ (by assumption)))).mono ?_); rintro e w2 ⟨rfl, hp2⟩))
  all_goals
    have hx := hid (hS2.out w2 (by assumption))
    clear hst hS hS2 hp2
    go_wp2
    go_ret
    exact ⟨congrArg (fun z => Ending.returned (.string z)) hc2.out, Hpz.out.then_ hx.out⟩
set_option maxRecDepth 8000 in
set_option maxHeartbeats 2000000 in
theorem rjoined_all (p : Int) (v0 v1 v2 : Value) (g : Bag) (m : Nat) (w : World) (hr : BR3 v0 v1 v2 g w) (hg : BN m g) (hm : m ≤ 10000) (hp : p < 9223372036854775808) :
    Calls Tryz.prog 24 #[.int .i64 p, .agg #[v0, v1, v2]] w fun e w' => e = .returned (.string (bs (66 :: (num p.toNat ++ bagB g)))) ∧ Pure w w' := by
  have hi := hid (fun W => (show Calls Tryz.prog 61 #[.int .i64 p] W fun e w' => e = .returned (.string (bs (num p.toNat))) ∧ Pure W w' from rint_all p W hp))
  have hb := hid (fun W (hW : Pure w W) => rbbytes_any _ g W (hr.pure hW).at (hg.small hm))
  have l1 := num_len p.toNat (by omega)
  have l2 := bagB_len hg hm
  have hl : ¬ (9223372036854775807 : Int) < 1 + ((bs (num p.toNat)).size : Int) := by rw [bs_size]; omega
  have hl2 : ¬ 9223372036854775807 < 1 + (bs (num p.toNat)).size := by rw [bs_size]; omega
  have hl3 : ¬ (9223372036854775807 : Int) < ((bs (66 :: num p.toNat)).size : Int) + ((bs (bagB g)).size : Int) := by rw [bs_size, bs_size]; simp only [List.length_cons]; omega
  have hl4 : ¬ 9223372036854775807 < (bs (66 :: num p.toNat)).size + (bs (bagB g)).size := by rw [bs_size, bs_size]; simp only [List.length_cons]; omega
  have hc := bcat1 66 (num p.toNat)
  have hc2 := hid (show bs (66 :: num p.toNat) ++ bs (bagB g) = bs (66 :: (num p.toNat ++ bagB g)) from by rw [bs_append]; rfl)
  obtain ⟨wz, hwz⟩ : ∃ wz, wz = w.alloc (.cells #[v0, v1, v2] 34) := ⟨_, rfl⟩
  have Hpz := hid (show Pure w wz from by rw [hwz]; exact (Below.refl _ _).alloc (Nat.le_refl _) _)
  have hbk := hid (show wz.heap[w.heap.size]? = some (.cells #[v0, v1, v2] 34 (0, 0)) from by rw [hwz]; exact block_alloc_new _ _)
  have hS : Hid (∀ W, Pure wz W → (W.cell? ⟨w.heap.size, 0, none⟩ = some v0 ∧ W.cell? ⟨w.heap.size, 1, none⟩ = some v1 ∧ W.cell? ⟨w.heap.size, 2, none⟩ = some v2 ∧ Pure wz W)) := fun W hW => by
    have e := (hW.block _ (lt_of_block hbk.out)).trans hbk.out
    exact ⟨cell_of_block e 0, cell_of_block e 1, cell_of_block e 2, hW⟩
  have hst := hid (hS.out wz.drew (Below.refl _ _).drew)
  have hS2 : Hid (∀ W : World, (W.cell? ⟨w.heap.size, 0, none⟩ = some v0 ∧ W.cell? ⟨w.heap.size, 1, none⟩ = some v1 ∧ W.cell? ⟨w.heap.size, 2, none⟩ = some v2 ∧ Pure wz W) → Pure wz W) := fun W h => h.2.2.2
  clear hr hg l1 l2 hbk hp
  generalize bs (num p.toNat) = A at *
  generalize bs (bagB g) = B at *
  generalize bs (66 :: num p.toNat) = C at *
  go_enter Tryz.func24, Tryz.ntmps24
  go_wp2_with fail
  rw [← hwz]
  clear hwz
  go_region_held3 (fun W => W.cell? ⟨w.heap.size, 0, none⟩ = some v0 ∧ W.cell? ⟨w.heap.size, 1, none⟩ = some v1 ∧ W.cell? ⟨w.heap.size, 2, none⟩ = some v2 ∧ Pure wz W)
    (first | assumption | with_reducible exact hst.out | with_reducible exact hS.out _ (Pure.then_ (hS2.out _ (by assumption)) (by assumption)))
    (first
      | (go_at_call 61; (with_reducible refine (hi.out _).mono ?_); rintro e w2 ⟨rfl, hp2⟩)
      | (go_at_call 63; (with_reducible refine (hb.out _ (Pure.then_ Hpz.out (hS2.out _ (by assumption)))).mono ?_); rintro e w2 ⟨rfl, hp2⟩))
  all_goals
    have hx := hid (hS2.out w2 (by assumption))
    clear hst hS hS2 hp2
    go_wp2
    go_ret
    exact ⟨congrArg (fun z => Ending.returned (.string z)) hc2.out, Hpz.out.then_ hx.out⟩
end Go.Proofs.YtdlpnhfgjficgaaGreat
