/- ref09: Join of one, With; law10: made, three. -/
import Derived.Test.YtlamhobkmknnpaaPeerF
import Derived.IntWalk
namespace Go.Proofs.Ytlamhobkmknnpaa
open Go.RowKit Go.Maps

def SeeP (w : World) (l : List Pr) (e : Ending) (w' : World) : Prop := ∃ v', e = .returned v' ∧ Peers w' v' l ∧ Pure w w'
set_option maxHeartbeats 1000000 in
theorem join1_any (v u : Value) (l : List Pr) (p : Pr) (w : World) (hv : Peers w v l) (hu : Peers w u [p]) (hl : l.length ≤ 100000) (hj : (pput l p).length ≤ 64) :
    Calls Try.prog 24 #[v, u] w (SeeP w (pput l p)) := by
  have hput := hid (put_any v l p w hv hl)
  obtain ⟨a, cap, rfl⟩ := hv.shape
  obtain ⟨au, cu, rfl⟩ := hu.shape
  obtain ⟨b, off, rfl, hb, c0, c1, c2⟩ := hu.get (show 0 < [p].length by simp)
  have Hv := hid hv
  have hfew := hid (fun v' W (h : Peers W v' (pput l p)) => few_small v' _ W h hj)
  have hpl := hid (rfl : pput l p = pput l p)
  generalize pput l p = R at *
  obtain ⟨pi, pn, ps⟩ := p
  simp only [List.getD, List.getElem?_cons_zero, Option.getD_some, Nat.zero_mul, Nat.add_zero] at c0 c1 c2
  unfold pv at hput
  clear hv hu
  go_enter Try.func24, Try.ntmps24
  go_wp2
  go_loopw [5, 6] (fun o i wr => (o = .slice a l.length cap ∧ i = .int .i64 0 ∧ wr = w) ∨ (i = .int .i64 1 ∧ Peers wr o R ∧ Pure w wr)) (fun _ i _ => 1 - (RowKit.intOf i).toNat)
  case atStart => exact .inl ⟨rfl, rfl, rfl⟩
  case round =>
    rcases hrel with ⟨rfl, rfl, rfl⟩ | ⟨rfl, hR, hp⟩
    · have h1 : (0 : Int) < (([(⟨pi, pn, ps⟩ : Pr)].length : Nat) : Int) := by simp
      go_wp2_with (go_at_call 23; (with_reducible refine hput.out.mono ?_); rintro e w' ⟨v', rfl, hown, hp⟩; obtain ⟨a2, c2, rfl⟩ := own_shape_p hown; have hO := hid (Row.of_own hown); have Hp := hid hp; clear hown hp)
      go_roundw
      case rel => exact .inr ⟨rfl, hO.out, Hp.out⟩
      case measure => simp [RowKit.intOf]
    · have h1 : ¬ (1 : Int) < (([(⟨pi, pn, ps⟩ : Pr)].length : Nat) : Int) := by simp
      obtain ⟨a2, c2, rfl⟩ := hR.shape
      have HR := hid hR
      have Hp := hid hp
      have hf := hid (hfew.out _ _ hR)
      clear hR hp
      go_wp2_with (go_at_call 22; (with_reducible refine hf.out.mono ?_); rintro e w' ⟨rfl, rfl⟩)
      go_ret
      exact ⟨_, rfl, HR.out, Hp.out⟩
set_option maxHeartbeats 1000000 in
theorem with_any (v : Value) (l : List Pr) (p : Pr) (w : World) (hv : Peers w v l) (hp : PB p) (hl : l.length ≤ 100000) (hj : (pput l p).length ≤ 64) :
    Calls Try.prog 9 #[v, pv p] w (SeeP w (pput l p)) := by
  have hput := hid (fun W (hW : Pure w W) => put_any v l p W (Row.pure hv hW) hl)
  have hmay := hid (fun W => may_yes p W hp)
  obtain ⟨a, cap, rfl⟩ := hv.shape
  have hfew := hid (fun v' W (h : Peers W v' (pput l p)) => few_small v' _ W h hj)
  generalize pput l p = R at *
  obtain ⟨pi, pn, ps⟩ := p
  unfold pv at hput hmay ⊢
  dsimp only at hput hmay ⊢
  clear hv hp
  obtain ⟨wz, hwz⟩ : ∃ wz, wz = w.alloc (.cells #[.int .i64 pi, .int .i64 pn, .int .i64 ps] 28) := ⟨_, rfl⟩
  have Hpz := hid (show Pure w wz from by rw [hwz]; exact (Below.refl _ _).alloc (Nat.le_refl _) _)
  have hblk : wz.heap[w.heap.size]? = some (.cells #[.int .i64 pi, .int .i64 pn, .int .i64 ps] 28 (0, 0)) := by rw [hwz]; exact block_alloc_new _ _
  go_enter Try.func9, Try.ntmps9
  go_wp2_with fail
  rw [← hwz]
  clear hwz
  refine (hmay.out _).mono ?_
  rintro e w2 ⟨rfl, hp2⟩
  have e2 := (hp2.block _ (lt_of_block hblk)).trans hblk
  have x0 : w2.cell? ⟨w.heap.size, 0, none⟩ = some (.int .i64 pi) := cell_of_block e2 0
  have x1 : w2.cell? ⟨w.heap.size, 1, none⟩ = some (.int .i64 pn) := cell_of_block e2 1
  have x2 : w2.cell? ⟨w.heap.size, 2, none⟩ = some (.int .i64 ps) := cell_of_block e2 2
  have Hp2 := hid (Hpz.out.then_ hp2)
  clear e2 hp2 hblk
  go_wp2_with fail
  refine (hput.out _ Hp2.out).mono ?_
  rintro e w3 ⟨v3, rfl, hown, hp3⟩
  obtain ⟨a3, c3, rfl⟩ := own_shape_p hown
  have hO := hid (Row.of_own hown)
  have Hp3 := hid (Hp2.out.then_ hp3)
  have hf := hid (hfew.out _ _ hO.out)
  clear hown hp3
  go_wp2_with fail
  refine hf.out.mono ?_
  rintro e w4 ⟨rfl, rfl⟩
  go_wp2
  go_ret
  exact ⟨_, rfl, hO.out, Hp3.out⟩
theorem three_any (w : World) : Calls Try.prog 18 #[] w fun e w' => e = .returned (.slice (some ⟨w.heap.size, 0, none⟩) 3 3) ∧ Peers w' (.slice (some ⟨w.heap.size, 0, none⟩) 3 3) [⟨1, 0, 0⟩, ⟨2, 0, 0⟩, ⟨3, 0, 0⟩] ∧ Pure w w' := by
  go_enter Try.func18, Try.ntmps18
  go_wp2
  go_ret
  refine ⟨rfl, ?_, (Below.refl _ _).alloc (Nat.le_refl _) _⟩
  refine ⟨rfl, _, _, rfl, Nat.le_refl _, by unfold maxLen; decide, .inr ⟨_, _, rfl, by simp, fun i hi => ?_⟩⟩
  rw [Nat.zero_add, World.cell?_alloc_new]
  simp [pvs, pcells]
end Go.Proofs.Ytlamhobkmknnpaa
