import Derived.Test.YtffafdkjgllpcaaClaimB
namespace Go.Proofs.Ytffafdkjgllpcaa
open Go.RowKit Go.Maps

/-- What New asks. -/
def newOk (owners : List Int) (start term skew : Int) : Prop :=
  1 ≤ ((dd owners).length : Int) ∧ ((dd owners).length : Int) ≤ 64 ∧ 0 ≤ start ∧ start ≤ 1125899906842624 ∧ 1 ≤ term ∧ term ≤ 1073741824 ∧ 0 ≤ skew ∧ skew ≤ 268435456 ∧ 2 * skew < term
def newCM (d1 d2 receipt : Int) (owners : List Int) (start term skew : Int) : CM := ⟨d1, d2, receipt, dd owners, start, term, skew, [], 0⟩

theorem new_claimAt (w1 : World) (vo : Value) (c : CM) (hown : Ints w1 vo c.owners) (hs : c.said = []) : ClaimAt ((w1.alloc (.map #[] 0)).alloc (.cells (c.cells vo w1.heap.size) 52)) (w1.heap.size + 1) w1.heap.size vo c := by
  have hlt : ∀ k, vo.rb = some k → k < w1.heap.size := Row.lt hown
  refine ⟨?_, ?_, ?_, ?_, ?_⟩
  · have := block_alloc_new (w1.alloc (.map #[] 0)) (.cells (c.cells vo w1.heap.size) 52); rw [World.size_alloc] at this; exact this
  · exact Row.pure hown (((Below.refl _ _).alloc (Nat.le_refl _) _).alloc (by simp) _)
  · intro e; have := hlt _ e; omega
  · intro e; have := hlt _ e; omega
  · rw [hs]; exact (IMap.made Value.bool w1).pure ((Below.refl _ _).alloc (by simp) _)

set_option maxHeartbeats 1000000 in
theorem new_ok (d1 d2 receipt start term skew : Int) (v : Value) (l : List Int) (w : World) (hr : Ints w v l) (hl : l.length ≤ 1000000) (hwf : AllWf l) (hok : newOk l start term skew) :
    Calls Try.prog 9 #[.agg #[.int .i64 d1, .int .i64 d2], .int .i64 receipt, v, .int .i64 start, .int .i64 term, .int .i64 skew] w fun e w' =>
      ∃ b bm vo, e = .returned (.pointer (some ⟨b, 0, none⟩)) ∧ ClaimAt w' b bm vo (newCM d1 d2 receipt l start term skew) ∧ w.heap.size ≤ b ∧ w.heap.size ≤ bm ∧ (∀ k, vo.rb = some k → w.heap.size ≤ k) ∧ Pure w w' := by
  obtain ⟨k1, k2, k3, k4, k5, k6, k7, k8, k9⟩ := hok
  have hon := fun W (hW : Pure w W) => once_any v l W (hr.pure hW) hl hwf
  have Hon := hid hon
  have hmm := @run_makeMap Try.prog
  obtain ⟨a, cap, rfl⟩ := hr.shape
  have t1 := within_yes k1 k2
  have t2 := within_yes k3 k4
  have t3 := within_yes k5 k6
  have t4 := within_yes k7 k8
  have k9' : ¬ term ≤ 2 * skew := by omega
  clear hr hon k1 k2 k3 k4
  go_enter Try.func9, Try.ntmps9
  go_wp2_with fail
  refine (Hon.out _ ((Below.refl _ _).alloc (Nat.le_refl _) _)).mono ?_
  rintro e w1 ⟨vo, rfl, hown, hb⟩
  obtain ⟨a1, cap1, rfl⟩ := (Ints.shape (Row.of_own hown))
  have Hown := hid hown
  have hsz := hb.size
  have b0 : w1.heap[w.heap.size]? = some (.cells #[.int .i64 d1, .int .i64 d2] 27 (0, 0)) := (hb.block _ (by simp)).trans (block_alloc_new _ _)
  have q1 : w1.cell? ⟨w.heap.size, 0, none⟩ = some (.int .i64 d1) := cell_of_block b0 0
  have q2 : w1.cell? ⟨w.heap.size, 1, none⟩ = some (.int .i64 d2) := cell_of_block b0 1
  have Hb := hid hb
  have Hsz := hid hsz
  clear hown b0 hb hsz
  go_wp2_with (go_at_call 29; refine (within_any _ _ _ _).mono ?_; rintro e w' ⟨rfl, rfl⟩)
  go_ret
  have hown2 : Ints w1 (.slice a1 (dd l).length cap1) (dd l) := Row.of_own Hown.out
  have hsz : w.heap.size + 1 ≤ w1.heap.size := by have := Hsz.out; simpa using this
  refine ⟨w1.heap.size + 1, w1.heap.size, .slice a1 (dd l).length cap1, rfl, new_claimAt w1 (.slice a1 (dd l).length cap1) (newCM d1 d2 receipt l start term skew) hown2 rfl, by omega, by omega, fun k hk => ?_, ?_⟩
  · have := (Hown.out.lt k (rb_own hk)).1; simp at this; omega
  · exact ((((Below.refl _ _).alloc (Nat.le_refl _) _).trans (Hb.out.mono (by simp))).alloc (by omega) _).alloc (by simp; omega) _
end Go.Proofs.Ytffafdkjgllpcaa
