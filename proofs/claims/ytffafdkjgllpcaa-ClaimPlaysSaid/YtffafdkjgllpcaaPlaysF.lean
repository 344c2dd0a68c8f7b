/- ref16's New; the program's New where it refuses; Plan.few; the document's Yes in the program's words. -/
import Derived.Test.YtffafdkjgllpcaaPlaysE
import Derived.RegionTactic
import Derived.BigRegion
import Derived.Deep.OwnRows
namespace Go.Proofs.Ytffafdkjgllpcaa
open Go.RowKit Go.Maps

theorem ryes_c (b ba bs : Nat) (vo : Value) (c : CM) (w : World) (h : RefC w b ba bs vo c) :
    Calls Try.prog 24 #[.pointer (some ⟨b, 0, none⟩)] w fun e w' => ∃ v', e = .returned v' ∧ Ints w' v' (srt (saidL c.said true c.owners)) ∧ Pure w w' := by
  obtain ⟨r, h, hp⟩ := h
  have := ryes_of b ba bs vo r w h (fun x => mlook c.said x == some true) (fun i hi => by
    rw [hp.owners] at hi ⊢
    have h1 := hp.ans i hi
    have h2 := hp.said i hi
    cases hA : r.ans.getD i false with
    | false =>
      rw [hA] at h1
      cases hm : mlook c.said (c.owners.getD i 0) with
      | none => rfl
      | some v => rw [hm] at h1; cases h1
    | true => rw [h2 hA]; simp)
  rw [hp.owners] at this
  exact this

theorem infoBool : (Try.prog.info? 4).map (fun i => (i.zero, i.size, i.bytes)) = some (some (.bool false), 1, 1) := by kernel_rfl

theorem made_bools (n : Nat) : madeCells #[Value.bool false] n = ((List.replicate n false).map Value.bool).toArray := by
  apply Array.ext'
  simp [madeCells, Nat.mod_one, List.map_const']
theorem rnew_rc {w1 : World} {vo : Value} {r : RC} {ba bs K : Nat} (hK : r.owners.length = K) (hown : Ints w1 vo r.owners) (hA : r.ans = List.replicate K false) (hS : r.said = List.replicate K false) (hl : K ≤ 64)
    (hb : (ba = w1.heap.size ∧ bs = w1.heap.size + 1) ∨ (ba = w1.heap.size + 1 ∧ bs = w1.heap.size)) :
    RCAt (((w1.alloc (.cells (madeCells #[Value.bool false] K) 4)).alloc (.cells (madeCells #[Value.bool false] K) 4)).alloc (.cells (r.cells vo ba bs) 46)).drew (w1.heap.size + 1 + 1) ba bs vo r := by
  have hlt : ∀ k, vo.rb = some k → k < w1.heap.size := Row.lt hown
  have p1 : Pure w1 (((w1.alloc (.cells (madeCells #[Value.bool false] K) 4)).alloc (.cells (madeCells #[Value.bool false] K) 4)).alloc (.cells (r.cells vo ba bs) 46)).drew :=
    ((((Below.refl _ _).alloc (Nat.le_refl _) _).alloc (by simp) _).alloc (by simp; omega) _).drew
  have b1 := block_alloc_new w1 (.cells (madeCells #[Value.bool false] K) 4)
  have b2 := block_alloc_new (w1.alloc (.cells (madeCells #[Value.bool false] K) 4)) (.cells (madeCells #[Value.bool false] K) 4)
  have b3 := block_alloc_new ((w1.alloc (.cells (madeCells #[Value.bool false] K) 4)).alloc (.cells (madeCells #[Value.bool false] K) 4)) (.cells (r.cells vo ba bs) 46)
  have c1 := block_alloc_old (block_alloc_old b1 (.cells (madeCells #[Value.bool false] K) 4)) (.cells (r.cells vo ba bs) 46)
  have c2 := block_alloc_old b2 (.cells (r.cells vo ba bs) 46)
  rw [World.size_alloc] at b2 b3 c2
  rw [World.size_alloc] at b3
  rw [made_bools] at c1 c2
  refine ⟨by rw [made_bools] at b3 ⊢; exact b3, hown.pure p1, ?_, ?_, by rw [hA, hK]; simp, by rw [hS, hK]; simp, by omega, ?_, ?_, ?_, ?_, ?_, ?_⟩
  · rw [hA, made_bools]
    rcases hb with ⟨rfl, rfl⟩ | ⟨rfl, rfl⟩
    · exact c1
    · exact c2
  · rw [hS, made_bools]
    rcases hb with ⟨rfl, rfl⟩ | ⟨rfl, rfl⟩
    · exact c2
    · exact c1
  · intro e; have := hlt _ e; omega
  · intro e; have := hlt _ e; omega
  · intro e; have := hlt _ e; omega
  · omega
  · omega
  · omega

set_option maxHeartbeats 1000000 in
theorem rnew_ok (d1 d2 receipt start term skew : Int) (v : Value) (l : List Int) (w : World) (hr : Ints w v l) (hl : l.length ≤ 1000000) (hnd : (dd l).Nodup) (hok : newOk l start term skew) :
    Calls Try.prog 15 #[.agg #[.int .i64 d1, .int .i64 d2], .int .i64 receipt, v, .int .i64 start, .int .i64 term, .int .i64 skew] w fun e w' =>
      ∃ b ba bs vo, e = .returned (.pointer (some ⟨b, 0, none⟩)) ∧ RefC w' b ba bs vo (newCM d1 d2 receipt l start term skew) ∧ w.heap.size ≤ b ∧ w.heap.size ≤ ba ∧ w.heap.size ≤ bs ∧ (∀ k, vo.rb = some k → w.heap.size ≤ k) ∧ Pure w w' := by
  obtain ⟨k1, k2, k3, k4, k5, k6, k7, k8, k9⟩ := hok
  have hon := fun W (hW : Pure w W) => once16_any v l W (hr.pure hW) hl
  have Hon := hid hon
  obtain ⟨a, cap, rfl⟩ := hr.shape
  have k9' : ¬ term ≤ 2 * skew := by omega
  have hw2 := IntWalk.i64_in (2 * skew) (by omega)
  have hk : Hid (1 ≤ (dd l).length ∧ (dd l).length ≤ 64) := ⟨by omega, by omega⟩
  clear hr hon
  go_enter Try.func15, Try.ntmps15
  go_wp2_with fail
  refine (Hon.out _ ((Below.refl _ _).alloc (Nat.le_refl _) _)).mono ?_
  rintro e w1 ⟨vo, rfl, hown, hb⟩
  obtain ⟨a1, cap1, rfl⟩ := (Ints.shape (Row.of_own hown))
  have Hown := hid hown
  have hsz := hb.size
  have b0 : w1.heap[w.heap.size]? = some (.cells #[.int .i64 d1, .int .i64 d2] 27 (0, 0)) := (hb.block _ (by simp)).trans (block_alloc_new _ _)
  have q1 : w1.cell? ⟨w.heap.size, 0, none⟩ = some (.int .i64 d1) := cell_of_block b0 0
  have q2 : w1.cell? ⟨w.heap.size, 1, none⟩ = some (.int .i64 d2) := cell_of_block b0 1
  have Hb := hid hb
  have hlt : w.heap.size < w1.heap.size := by simp at hsz; omega
  clear hown b0 hb hsz
  have Hpair := hid (pair_start d1 d2 receipt start term skew l hnd hk.out.1)
  generalize hKe : (dd l).length = K at *
  have fin : Hid (∀ ba bs, ((ba = w1.heap.size ∧ bs = w1.heap.size + 1) ∨ (ba = w1.heap.size + 1 ∧ bs = w1.heap.size)) → ∃ b ba' bs' vo, Ending.returned (.pointer (some ⟨w1.heap.size + 1 + 1, 0, none⟩)) = .returned (.pointer (some ⟨b, 0, none⟩)) ∧ RefC (((w1.alloc (.cells (madeCells #[Value.bool false] K) 4)).alloc (.cells (madeCells #[Value.bool false] K) 4)).alloc (.cells #[.int .i64 d1, .int .i64 d2, .int .i64 receipt, .int .i64 start, .int .i64 term, .int .i64 skew, .slice a1 K cap1, .slice (some ⟨ba, 0, none⟩) K K, .slice (some ⟨bs, 0, none⟩) K K, .bool false, .bool false] 46)).drew b ba' bs' vo (newCM d1 d2 receipt l start term skew) ∧ w.heap.size ≤ b ∧ w.heap.size ≤ ba' ∧ w.heap.size ≤ bs' ∧ (∀ k, vo.rb = some k → w.heap.size ≤ k) ∧ Pure w (((w1.alloc (.cells (madeCells #[Value.bool false] K) 4)).alloc (.cells (madeCells #[Value.bool false] K) 4)).alloc (.cells #[.int .i64 d1, .int .i64 d2, .int .i64 receipt, .int .i64 start, .int .i64 term, .int .i64 skew, .slice a1 K cap1, .slice (some ⟨ba, 0, none⟩) K K, .slice (some ⟨bs, 0, none⟩) K K, .bool false, .bool false] 46)).drew) := fun ba bs hb => by
    have h0 := rnew_rc (r := ⟨d1, d2, receipt, start, term, skew, dd l, List.replicate K false, List.replicate K false, false, false⟩) hKe (show Ints w1 (.slice a1 K cap1) (dd l) from by unfold Ints; rw [hKe]; exact Row.of_own Hown.out) rfl rfl hk.out.2 hb
    unfold RC.cells at h0
    dsimp only at h0
    rw [hKe] at h0
    refine ⟨w1.heap.size + 1 + 1, ba, bs, .slice a1 K cap1, rfl, ⟨_, h0, hKe ▸ Hpair.out⟩, by omega, by omega, by omega, fun k hk => ?_, ?_⟩
    · have := (Hown.out.lt k (rb_own hk)).1; simp at this; omega
    · exact (((((show Pure w (w.alloc _) from (Below.refl _ _).alloc (Nat.le_refl _) _).then_ Hb.out).alloc (by omega) _).alloc (by simp; omega) _).alloc (by simp; omega) _).drew
  have HKe := hid hKe
  clear hKe
  have hmk := run_make_row' (P := Try.prog) 31 4 (.bool false) 1 Try.underlying31 infoBool rfl .i64 .i64 K (by omega) (by omega)
  have hno : ((K : Int) == 0 || decide (64 < (K : Int)) || decide (start < 0) || decide (1125899906842624 < start) || decide (term < 1) || decide (1073741824 < term) || decide (skew < 0) || decide (268435456 < skew) || decide (term ≤ 2 * skew)) = false := by
    simp; omega
  go_wp2
  go_region
  all_goals
    go_wp2
    go_ret
  · exact fin.out _ _ (.inl ⟨rfl, rfl⟩)
  · exact fin.out _ _ (.inr ⟨rfl, rfl⟩)
end Go.Proofs.Ytffafdkjgllpcaa
