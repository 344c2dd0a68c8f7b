import Derived.Test.YtffafdkjgllpcaaSort
namespace Go.Proofs.Ytffafdkjgllpcaa
open Go.RowKit Go.Maps
set_option maxHeartbeats 400000 in
theorem majority (n : Int) (w : World) (h0 : 0 ≤ n) (h1 : n ≤ 1000000) :
    Calls Try.prog 31 #[.int .i64 n] w fun e w' => e = .returned (.int .i64 (n / 2 + 1)) ∧ w = w' := by
  go_enter Try.func31, Try.ntmps31
  go_wp2
  go_ret
  exact ⟨ret_int (by rw [show max n 0 = n by omega]), rfl⟩

set_option maxHeartbeats 400000 in
theorem once_any (v : Value) (l : List Int) (w : World) (hr : Ints w v l) (hl : l.length ≤ 1000000) (hwf : AllWf l) :
    Calls Try.prog 28 #[v] w fun e w' => ∃ v', e = .returned v' ∧ w'.ownsRow w.heap.size 3 1 v' (dd l).length ((dd l).map (Value.int .i64)) ∧ Pure w w' := by
  obtain ⟨a, cap, rfl⟩ := hr.shape
  obtain ⟨_, h1, h2, hc⟩ := hr.cell
  obtain ⟨i0, hi, hz0, hz1, hz2⟩ := info_parts infoInt
  have hmm := @run_makeMap Try.prog
  unfold maxLen at h2
  go_enter Try.func28, Try.ntmps28
  go_wp2
  go_step3
  go_wp2
  go_step3
  go_wp2
  go_loopw [4, 10] (fun v i wr => ∃ k : Nat, k ≤ l.length ∧ i = .int .i64 k ∧ wr.ownsRow (w.heap.size + 1) 3 1 v (dd (l.take k)).length ((dd (l.take k)).map (Value.int .i64)) ∧ IMap Value.bool wr w.heap.size (tr (dd (l.take k))) ∧ Pure w wr)
    (fun _ i _ => l.length - (RowKit.intOf i).toNat)
  case atStart => exact ⟨0, Nat.zero_le _, rfl, World.ownsRow_nil _ _ _ _, IMap.made _ _, (Below.refl _ _).alloc (Nat.le_refl _) _⟩
  case round =>
    obtain ⟨k, hk, rfl, hown, hmap, hb⟩ := hrel
    by_cases hlt : k < l.length
    · obtain ⟨b, off, rfl, hbw, hcell⟩ : ∃ b off, a = some ⟨b, off, none⟩ ∧ b < w.heap.size ∧ ∀ i, i < l.length → w.cell? ⟨b, off + i, none⟩ = some (.int .i64 (l.getD i 0)) := by
        rcases hc with ⟨h, _⟩ | h
        · rw [h] at hlt; exact absurd hlt (Nat.not_lt_zero _)
        · exact h
      have hcx : wr.cell? ⟨b, off + k, none⟩ = some (.int .i64 (l.getD k 0)) := (hb.cell (by exact hbw)).trans (hcell k hlt)
      have hlook := hmap.look (P := Try.prog) Try.underlying3 Try.underlying50 (zeroBool _) (l.getD k 0) (hwf.get hlt) false
      simp only [Bool.false_eq_true, if_false, dec_mem_mlook] at hlook
      have hwx := hwf.get hlt
      have hdd := dd_take l k hlt
      have hdl := dd_len (l.take k)
      simp only [List.length_take] at hdl
      clear hcell hc
      generalize l.getD k 0 = x at *
      have Hdd := hid hdd
      clear hdd
      by_cases hm : x ∈ dd (l.take k)
      · have Hm := hid hm
        simp only [hm, decide_true] at hlook
        clear hm
        go_wp2
        go_roundw
        case rel => exact ⟨k + 1, by omega, by go_num, by rw [Hdd.out, if_pos Hm.out]; exact hown, by rw [Hdd.out, if_pos Hm.out]; exact hmap, hb⟩
        case measure => simp [RowKit.intOf]; omega
      · have Hm := hid hm
        simp only [hm, decide_false] at hlook
        clear hm
        go_wp2_with (first
          | (at_mapUpdate; refine wpList_put Value.bool _ rfl _ _ _ 50 rfl 3 4 Try.underlying3 Try.underlying50 w.heap.size (tr (dd (l.take k))) rfl hmap x hwx true rfl rfl ?_; intro w1 hmap1 hg1 hs1; have hown1 := hown.kept hg1 (.inr (own_ne hown (by omega))); have Hs1 := hid hs1; clear hlook hs1)
          | (at_builtin; refine wpList_append_own _ rfl _ _ 22 rfl (w.heap.size + 1) 3 i0 (.int .i64 0) 1 8 Try.underlying22 hi hz0 hz1 hz2 rfl (by decide) _ _ _ rfl (hown1.alloc _) ⟨w1.heap.size, 0, none⟩ 1 1 [.int .i64 x] rfl rfl hnews_one ?c2 ?c3 ?c4 ?c5 ?_))
        case c2 => intro u hu; simp at hu; subst hu; rfl
        case c3 => unfold maxLen; omega
        case c4 => omega
        case c5 => have h1 := hmap1.lt; have h2 := hb.size; simp [Hs1.out]; omega
        intro v' w2 hown2 hg2 _
        go_wp2
        go_roundw
        case rel =>
          refine ⟨k + 1, by omega, by go_num, ?_, ?_, ?_⟩
          · rw [Hdd.out, if_neg Hm.out]; exact ownsRow_snoc hown2
          · rw [Hdd.out, if_neg Hm.out, ← mput_tr _ _ Hm.out]
            exact hmap1.kept (S := fun k => some k = u4.ownBlock) ((Kept.refl _ _).alloc _ |>.grown hg2 (fun k hk _ => hk.symm)) (fun e => own_ne hown (by omega) e.symm)
          · have hs := hb.size
            exact ((hb.grown hg1 hb.size (fun j hj => by cases hj; exact Nat.le_refl _)).alloc (by rw [Hs1.out]; exact hs) _).grown hg2 (by simp [Hs1.out]; omega) (fun j hj => by have := (hown.lt j hj).1; omega)
        case measure => simp [RowKit.intOf]; omega
    · go_wp2
      rw [Exit.noGoto_ret]
      go_ret
      rw [List.take_of_length_le (by omega)] at hown
      exact ⟨_, rfl, own_mono hown (by omega), hb⟩
end Go.Proofs.Ytffafdkjgllpcaa
