import Derived.Test.YtffafdkjgllpcaaClaimD
namespace Go.Proofs.Ytffafdkjgllpcaa
open Go.RowKit Go.Maps

theorem owners_cell {w : World} {b bm : Nat} {vo : Value} {c : CM} (h : ClaimAt w b bm vo c) : ∃ a cap, vo = .slice a c.owners.length cap ∧ c.owners.length ≤ cap ∧ cap ≤ maxLen ∧ (c.owners = [] ∨ ∃ ob off, a = some ⟨ob, off, none⟩ ∧ ob < w.heap.size ∧ ∀ i, i < c.owners.length → w.cell? ⟨ob, off + i, none⟩ = some (.int .i64 (c.owners.getD i 0))) := by
  obtain ⟨a, cap, rfl⟩ := Ints.shape h.own
  obtain ⟨_, h1, h2, h3⟩ := h.own.cell
  refine ⟨a, cap, rfl, h1, h2, ?_⟩
  rcases h3 with ⟨h4, _⟩ | h4
  · exact .inl h4
  · exact .inr h4

set_option maxHeartbeats 1000000 in
theorem who_any (b bm : Nat) (vo : Value) (c : CM) (yes : Bool) (w : World) (h : ClaimAt w b bm vo c) (hl : c.owners.length ≤ 1000000) (hwf : AllWf c.owners) :
    Calls Try.prog 32 #[.pointer (some ⟨b, 0, none⟩), .bool yes] w fun e w' =>
      ∃ v', e = .returned v' ∧ w'.ownsRow w.heap.size 3 1 v' (srt (saidL c.said yes c.owners)).length ((srt (saidL c.said yes c.owners)).map (Value.int .i64)) ∧ Pure w w' := by
  have hmf : ∀ (fn : Fn) (first cap : Array Value) (w : World), (Instr.makeFunc fn first cap).run Try.prog w = .ok (.func fn first cap) w := fun _ _ _ _ => rfl
  obtain ⟨W, hW⟩ : ∃ W, W = ((w.alloc (.cells #[.pointer (some ⟨b, 0, none⟩)] 24)).alloc (.cells #[.bool yes] 4)).alloc (.cells #[.slice none 0 0] 22) := ⟨_, rfl⟩
  have hP : Pure w W := by rw [hW]; exact (((Below.refl _ _).alloc (Nat.le_refl _) _).alloc (by simp) _).alloc (by simp; omega) _
  have hsz : W.heap.size = w.heap.size + 3 := by rw [hW]; simp
  have hc : W.heap[w.heap.size]? = some (.cells #[.pointer (some ⟨b, 0, none⟩)] 24 (0, 0)) := by rw [hW]; exact block_alloc_old (block_alloc_old (block_alloc_new _ _) _) _
  have hy : W.heap[w.heap.size + 1]? = some (.cells #[.bool yes] 4 (0, 0)) := by
    rw [hW]; refine block_alloc_old ?_ _
    have := block_alloc_new (w.alloc (.cells #[.pointer (some ⟨b, 0, none⟩)] 24)) (.cells #[.bool yes] 4)
    simpa using this
  have ho : W.heap[w.heap.size + 2]? = some (.cells #[.slice none 0 0] 22 (0, 0)) := by
    rw [hW]
    have := block_alloc_new ((w.alloc (.cells #[.pointer (some ⟨b, 0, none⟩)] 24)).alloc (.cells #[.bool yes] 4)) (.cells #[.slice none 0 0] 22)
    simpa using this
  have hA : ClaimAt W b bm vo c := h.pure hP
  have hbw := lt_of_block h.blk
  have hbmw := h.map.lt
  have Hown0 := hid h.own
  have hvw : ∀ k, vo.rb = some k → k < w.heap.size := Row.lt h.own
  have g3 : W.cell? ⟨b, 3, none⟩ = some vo := cell_of_block hA.blk 3
  have g1 : W.cell? ⟨w.heap.size, 0, none⟩ = some (.pointer (some ⟨b, 0, none⟩)) := cell_of_block hc 0
  obtain ⟨a, cap, rfl, ha1, ha2, ha3⟩ := owners_cell hA
  unfold maxLen at ha2
  have HA := hid hA
  have Hc := hid hc
  have Hy := hid hy
  have Ho := hid ho
  have HP := hid hP
  have Hsz := hid hsz
  clear h hA hc hy ho hP hsz
  rw [hW] at g1 g3
  have HW := hid hW
  clear hW
  go_enter Try.func32, Try.ntmps32
  go_wp2_with fail
  go_loopw [15] (fun i wr => ∃ (k : Nat) (v : Value), k ≤ c.owners.length ∧ i = .int .i64 k ∧ wr.heap[w.heap.size + 2]? = some (.cells #[v] 22 (0, 0)) ∧
      wr.ownsRow (w.heap.size + 3) 3 1 v (saidL c.said yes (c.owners.take k)).length ((saidL c.said yes (c.owners.take k)).map (Value.int .i64)) ∧ Kept (fun k => k = w.heap.size + 2 ∨ w.heap.size + 3 ≤ k) W wr)
    (fun i _ => c.owners.length - (intOf i).toNat)
  case atStart => rw [← HW.out]; exact ⟨0, .slice none 0 0, Nat.zero_le _, rfl, Ho.out, World.ownsRow_nil _ _ _ _, Kept.refl _ _⟩
  case round =>
    obtain ⟨k, v, hk, rfl, hov, hown, hkp⟩ := hrel
    have hsz := Hsz.out
    by_cases hlt : k < c.owners.length
    · obtain ⟨ob, off, rfl, hob, hcell⟩ : ∃ ob off, a = some ⟨ob, off, none⟩ ∧ ob < W.heap.size ∧ ∀ i, i < c.owners.length → W.cell? ⟨ob, off + i, none⟩ = some (.int .i64 (c.owners.getD i 0)) := by
        rcases ha3 with h | h
        · rw [h] at hlt; simp at hlt
        · exact h
      have hob' : ob < w.heap.size := Row.lt_addr Hown0.out (by omega)
      have hcx : wr.cell? ⟨ob, off + k, none⟩ = some (.int .i64 (c.owners.getD k 0)) := (hkp.cell (p := ⟨ob, off + k, none⟩) hob (by simp; omega)).trans (hcell k hlt)
      have hA' : ClaimAt wr b bm (.slice (some ⟨ob, off, none⟩) c.owners.length cap) c := HA.out.kept hkp (by omega) (by omega) (fun j hj => by have := hvw j hj; omega)
      have hc' : wr.heap[w.heap.size]? = some (.cells #[.pointer (some ⟨b, 0, none⟩)] 24 (0, 0)) := (hkp.block _ (by omega) (by omega)).trans Hc.out
      have hy' : wr.heap[w.heap.size + 1]? = some (.cells #[.bool yes] 4 (0, 0)) := (hkp.block _ (by omega) (by omega)).trans Hy.out
      have hsl := saidL_len c.said yes (c.owners.take k)
      simp only [List.length_take] at hsl
      have hcall := each_any b bm w.heap.size (w.heap.size + 1) (w.heap.size + 2) (w.heap.size + 3) _ v c yes (saidL c.said yes (c.owners.take k)) (c.owners.getD k 0) wr hA' (hwf.get hlt) hc' hy' hov hown (by have := hkp.size; omega) (by omega) (by omega)
      rw [← saidL_take _ _ _ _ hlt] at hcall
      have Hcall := hid hcall
      have Hkp := hid hkp
      clear hcall hcell hA' hc' hy' hov hown hsl hkp ha3 g1 g3
      generalize c.owners.getD k 0 = x at *
      go_wp2_with (go_at_call 38; refine Hcall.out.mono ?_; rintro e w' ⟨rfl, v2, hov2, hown2, hk2⟩)
      go_roundw
      case rel => exact ⟨k + 1, v2, by omega, by go_num, hov2, hown2, Hkp.out.then_ hk2 (fun _ _ h => h)⟩
      case measure => simp [intOf]; omega
    · rw [List.take_of_length_le (by omega)] at hown
      obtain ⟨a2, cap2, rfl⟩ := (Row.of_own hown).shape
      have hsl := saidL_len c.said yes c.owners
      have hsort := sort_own (w.heap.size + 3) _ _ wr hown (by omega)
      have q1 : wr.cell? ⟨w.heap.size + 1 + 1, 0, none⟩ = some (.slice a2 (saidL c.said yes c.owners).length cap2) := cell_of_block hov 0
      have Hsort := hid hsort
      have Hov := hid hov
      have Hkp := hid hkp
      have Hown := hid hown
      clear hsort hov hkp hown hsl g1 g3
      go_wp2_with fail
      refine Hsort.out.mono ?_
      rintro e w2 ⟨rfl, hown2, hg2⟩
      have hov2 : w2.heap[w.heap.size + 2]? = some (.cells #[.slice a2 (saidL c.said yes c.owners).length cap2] 22 (0, 0)) := (hg2.block _ (by have := Hkp.out.size; omega) (fun e => own_ne Hown.out (by omega) e.symm)).trans Hov.out
      have q2 : w2.cell? ⟨w.heap.size + 1 + 1, 0, none⟩ = some (.slice a2 (saidL c.said yes c.owners).length cap2) := cell_of_block hov2 0
      have Hown2 := hid hown2
      have Hg2 := hid hg2
      clear hov2 q1 hown2 hg2
      go_wp2
      go_ret
      refine ⟨_, rfl, own_mono Hown2.out (by omega), ?_⟩
      have : Kept (fun k => k = w.heap.size + 2 ∨ w.heap.size + 3 ≤ k) W w2 := Hkp.out.grown Hg2.out (fun j hj _ => .inr (Hown.out.lt j hj).1)
      exact HP.out.trans (this.below (by omega) (fun j hj => by omega))
end Go.Proofs.Ytffafdkjgllpcaa
