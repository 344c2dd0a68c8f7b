/- slices.Concat of two rows of numbers. -/
import Derived.Test.YtlamhobkmknnpaaWatchC
import Derived.Shelf.Spec.SlicesGrow
namespace Go.Proofs.Ytlamhobkmknnpaa
open Go.RowKit Go.Maps Go.MapKept

theorem zeroCells_size1 (n : Nat) : (Builtin.zeroCells (Value.int .i64 0).cells n).size = n := by simp [Builtin.zeroCells, Value.cells]
theorem grow_any (n : Nat) (w : World) (hn : n ≤ 1000000) :
    Calls Try.prog 51 #[.slice none 0 0, .int .i64 n] w fun e w' => ∃ v, e = .returned v ∧ w'.ownsRow w.heap.size 3 1 v 0 [] ∧ Pure w w' := by
  obtain ⟨i0, hi, hz0, hz1, hz2⟩ := info_parts infoInt
  rcases Nat.eq_zero_or_pos n with rfl | h
  · refine (Any8.slices_Grow_room Try.growI none 0 0 0 w (by omega) (by omega) (by omega) (by omega)).mono ?_
    rintro e w' ⟨rfl, rfl⟩
    exact ⟨_, rfl, World.ownsRow_nil _ _ _ _, Below.refl _ _⟩
  · refine (Any8.slices_Grow_grow Try.growI i0 (.int .i64 0) hi hz0 (by rw [hz1]; decide) none 0 0 n [] w (by omega) (by omega) (by rw [hz2]; omega) (by omega) (by simp) (fun _ => rfl) (fun a h => by cases h)).mono ?_
    rintro e w' ⟨rfl, rfl⟩
    refine ⟨_, rfl, ?_, (Below.refl _ _).drew.alloc (Nat.le_refl _) _⟩
    have hle := grownCap_ge w (0 + n) 0 (Try.growI_ren.t 25)
    refine World.ownsRow_made w.drew _ _ (Nat.le_refl _) (grownCap_le_maxLen w _ _ _ (by unfold maxLen; omega)) ?_
    rw [Array.size_append, Array.size_append, zeroCells_size1, zeroCells_size1, Nat.mul_one]
    show 0 + (0 + n - 0) + (grownCap w (0 + n) 0 (Try.growI_ren.t 25) - (0 + n)) = grownCap w (0 + n) 0 (Try.growI_ren.t 25)
    omega
def cat (l1 l2 : List Int) (k : Nat) : List Int := if k = 0 then [] else if k = 1 then l1 else l1 ++ l2
set_option maxRecDepth 8000 in
set_option maxHeartbeats 4000000 in
theorem concat2_any (bb cp : Nat) (v1 v2 : Value) (l1 l2 : List Int) (w : World) (c1 : w.cell? ⟨bb, 0, none⟩ = some v1) (c2 : w.cell? ⟨bb, 1, none⟩ = some v2) (h1 : Ints w v1 l1) (h2 : Ints w v2 l2) (hl1 : l1.length ≤ 100000) (hl2 : l2.length ≤ 100000) (hbb : bb < w.heap.size) :
    Calls Try.prog 41 #[.slice (some ⟨bb, 0, none⟩) 2 cp] w fun e w' => ∃ v', e = .returned v' ∧ w'.ownsRow w.heap.size 3 1 v' (l1 ++ l2).length ((l1 ++ l2).map (Value.int .i64)) ∧ Pure w w' := by
  obtain ⟨i0, hi, hz0, hz1, hz2⟩ := info_parts infoInt
  obtain ⟨a1, q1, rfl⟩ := h1.shape
  obtain ⟨a2, q2, rfl⟩ := h2.shape
  have H1 := hid h1
  have H2 := hid h2
  have hC := hid (fun W (hW : Pure w W) => (show W.cell? ⟨bb, 0, none⟩ = some (.slice a1 l1.length q1) ∧ W.cell? ⟨bb, 1, none⟩ = some (.slice a2 l2.length q2) from ⟨(hW.cell (p := ⟨bb, 0, none⟩) hbb).trans c1, (hW.cell (p := ⟨bb, 1, none⟩) hbb).trans c2⟩))
  have Hg := hid (grow_any (l1.length + l2.length) w (by omega))
  clear h1 h2 hbb
  go_enter Try.func41, Try.ntmps41
  go_wp2
  go_loop [3, 5, 11] (fun s _ i => (i = .int .i64 0 ∧ s = .int .i64 0) ∨ (i = .int .i64 1 ∧ s = .int .i64 (l1.length : Int)) ∨ (i = .int .i64 2 ∧ s = .int .i64 ((l1.length + l2.length : Nat) : Int))) (fun _ _ i => 2 - (RowKit.intOf i).toNat)
  case atStart => exact .inl ⟨rfl, rfl⟩
  case round =>
    rcases hrel with ⟨rfl, rfl⟩ | ⟨rfl, rfl⟩ | ⟨rfl, rfl⟩
    · have hs : ¬ (l1.length : Int) < 0 := by omega
      go_wp2
      go_round
      case rel => exact .inr (.inl ⟨rfl, rfl⟩)
      case measure => simp [RowKit.intOf]
    · have hs : ¬ ((l1.length : Int) + (l2.length : Int)) < 0 := by omega
      go_wp2
      go_round
      case rel => exact .inr (.inr ⟨rfl, by simp⟩)
      case measure => simp [RowKit.intOf]
    · go_wp2_with fail
      refine Hg.out.mono ?_
      rintro e w1 ⟨v1, rfl, hown, hp⟩
      have Hown := hid hown
      have Hp := hid hp
      obtain ⟨a3, q3, rfl⟩ := own_shape_p hown
      clear hown hp c1 c2
      go_wp2
      go_loopw [6, 8, 27] (fun o _ i wr => ∃ (k : Nat), k ≤ 2 ∧ i = .int .i64 k ∧ wr.ownsRow w.heap.size 3 1 o (cat l1 l2 k).length ((cat l1 l2 k).map (Value.int .i64)) ∧ Pure w wr) (fun _ _ i _ => 2 - (RowKit.intOf i).toNat)
      case atStart => exact ⟨0, by omega, rfl, Hown.out, Hp.out⟩
      case round =>
        obtain ⟨k, hk, rfl, hown, hp⟩ := hrel
        obtain ⟨c1, c2⟩ := hC.out wr hp
        have Hp := hid hp
        by_cases h0 : k = 0
        · subst h0
          have Hown := hid hown
          obtain ⟨a4, q4, rfl⟩ := own_shape_p hown
          clear hown hp
          go_wp2_with (at_builtin; refine wpList_append_rows rfl _ _ 23 rfl w.heap.size 3 i0 (.int .i64 0) 1 8 Try.underlying23 hi hz0 hz1 hz2 rfl (by decide) (by decide) (.slice a4 0 q4) 0 [] rfl Hown.out _ l1.length (l1.map (Value.int .i64)) rfl (Row.pure H1.out Hp.out) (by intro u hu; obtain ⟨x, _, rfl⟩ := List.mem_map.1 hu; rfl) (by omega) Hp.out.size ?_)
          intro v3 w3 hown3 hg3
          have Hown3 := hid hown3
          have Hp3 := hid (Hp.out.grown hg3 Hp.out.size (fun k hk => (Hown.out.lt k hk).1))
          obtain ⟨a5, q5, rfl⟩ := own_shape_p hown3
          clear hown3 hg3
          go_wp2
          go_roundw
          case rel => exact ⟨1, by omega, rfl, by simpa [cat] using Hown3.out, Hp3.out⟩
          case measure => simp [RowKit.intOf]
        · by_cases h1 : k = 1
          · subst h1
            have Hown := hid (show wr.ownsRow w.heap.size 3 1 u6 l1.length (l1.map (Value.int .i64)) from hown)
            obtain ⟨a4, q4, rfl⟩ := own_shape_p hown
            clear hown hp
            go_wp2_with (at_builtin; refine wpList_append_rows rfl _ _ 23 rfl w.heap.size 3 i0 (.int .i64 0) 1 8 Try.underlying23 hi hz0 hz1 hz2 rfl (by decide) (by decide) (.slice a4 l1.length q4) l1.length (l1.map (Value.int .i64)) rfl Hown.out _ l2.length (l2.map (Value.int .i64)) rfl (Row.pure H2.out Hp.out) (by intro u hu; obtain ⟨x, _, rfl⟩ := List.mem_map.1 hu; rfl) (by omega) Hp.out.size ?_)
            intro v3 w3 hown3 hg3
            have Hown3 := hid hown3
            have Hp3 := hid (Hp.out.grown hg3 Hp.out.size (fun k hk => (Hown.out.lt k hk).1))
            obtain ⟨a5, q5, rfl⟩ := own_shape_p hown3
            clear hown3 hg3
            go_wp2
            go_roundw
            case rel => exact ⟨2, by omega, rfl, by simpa [cat] using Hown3.out, Hp3.out⟩
            case measure => simp [RowKit.intOf]
          · obtain rfl : k = 2 := by omega
            have Hown := hid (show wr.ownsRow w.heap.size 3 1 u6 (l1 ++ l2).length ((l1 ++ l2).map (Value.int .i64)) from hown)
            obtain ⟨a4, q4, rfl⟩ := own_shape_p Hown.out
            clear hown hp
            go_wp2
            go_ret
            exact ⟨_, rfl, Hown.out, Hp.out⟩
end Go.Proofs.Ytlamhobkmknnpaa
