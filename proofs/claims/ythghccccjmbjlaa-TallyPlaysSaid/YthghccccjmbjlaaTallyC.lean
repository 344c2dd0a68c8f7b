import Derived.Test.YthghccccjmbjlaaTallyB
namespace Go.Proofs.Ythghccccjmbjlaa
open Go.RowKit Go.Maps

theorem ddo_nodup : ∀ (l acc : List Int), acc.Nodup → (ddo acc l).Nodup
  | [], acc, h => by simpa [ddo] using h
  | x :: l, acc, h => by
    unfold ddo
    split
    · exact ddo_nodup l acc h
    · rename_i hx
      refine ddo_nodup l _ (List.nodup_append.2 ⟨h, by simp, fun a ha b hb e => ?_⟩)
      simp at hb; subst hb; subst e; exact hx ha
theorem ddo_mem : ∀ (l acc : List Int) (x : Int), x ∈ ddo acc l ↔ x ∈ acc ∨ x ∈ l
  | [], acc, x => by simp [ddo]
  | y :: l, acc, x => by
    unfold ddo
    rw [ddo_mem l _ x]
    split
    · rename_i hy
      simp only [List.mem_cons]
      constructor
      · rintro (h | h)
        · exact .inl h
        · exact .inr (.inr h)
      · rintro (h | rfl | h)
        · exact .inl h
        · exact .inl hy
        · exact .inr h
    · simp only [List.mem_append, List.mem_cons, List.mem_nil_iff, or_false, or_assoc]
theorem dd_mem (l : List Int) (x : Int) : x ∈ dd l ↔ x ∈ l := by unfold dd; rw [ddo_mem]; simp
theorem dd_wf {l : List Int} (h : AllWf l) : AllWf (dd l) := fun x hx => h x ((dd_mem l x).1 hx)

set_option maxHeartbeats 1000000 in
theorem new_ok (v : Value) (l : List Int) (need : Int) (w : World) (hr : Ints w v l) (hl : l.length ≤ 1000) (hwf : AllWf l) (hn : 0 ≤ need) :
    Calls Try.prog 10 #[v, .int .i64 need] w fun e w' => ∃ b bm vo, e = .returned (.pointer (some ⟨b, 0, none⟩)) ∧ TallyAt w' b bm vo ⟨dd l, need, []⟩ ∧ w.heap.size ≤ b ∧ w.heap.size ≤ bm ∧ (∀ k, vo.rb = some k → w.heap.size ≤ k) ∧ Pure w w' := by
  obtain ⟨a, cap, rfl⟩ := hr.shape
  obtain ⟨_, h1, h2, hc⟩ := hr.cell
  obtain ⟨i0, hi, hz0, hz1, hz2⟩ := info_parts infoInt
  have hmm := @run_makeMap Try.prog
  unfold maxLen at h2
  go_enter Try.func10, Try.ntmps10
  go_wp2
  go_step3
  go_wp2
  go_step3
  go_wp2
  go_loopw [16] (fun i wr => ∃ (k : Nat) (v : Value), k ≤ l.length ∧ i = .int .i64 k ∧ wr.heap[w.heap.size + 1]? = some (.cells #[v, .int .i64 need, .map (some w.heap.size)] 40 (0, 0)) ∧
      wr.ownsRow (w.heap.size + 2) 3 1 v (dd (l.take k)).length ((dd (l.take k)).map (Value.int .i64)) ∧ IMap Value.bool wr w.heap.size [] ∧ Pure w wr ∧ w.heap.size + 2 ≤ wr.heap.size) (fun i _ => l.length - (RowKit.intOf i).toNat)
  case atStart =>
    refine ⟨0, _, Nat.zero_le _, rfl, ?_, World.ownsRow_nil _ _ _ _, (IMap.made _ _).pure ((Below.refl _ _).alloc (Nat.le_refl _) _), ((Below.refl _ _).alloc (Nat.le_refl _) _).alloc (by simp) _, by simp⟩
    have := block_alloc_new (w.alloc (.map #[] 0)) (.cells #[.slice none 0 0, .int .i64 need, .map (some w.heap.size)] 40)
    simpa using this
  case round =>
    obtain ⟨k, v, hk, rfl, hblk, hown, hmap, hp, hsz⟩ := hrel
    by_cases hlt : k < l.length
    · obtain ⟨b, off, rfl, hbw, hcell⟩ : ∃ b off, a = some ⟨b, off, none⟩ ∧ b < w.heap.size ∧ ∀ i, i < l.length → w.cell? ⟨b, off + i, none⟩ = some (.int .i64 (l.getD i 0)) := by
        rcases hc with ⟨h, _⟩ | h
        · rw [h] at hlt; exact absurd hlt (Nat.not_lt_zero _)
        · exact h
      have hcx : wr.cell? ⟨b, off + k, none⟩ = some (.int .i64 (l.getD k 0)) := (hp.cell (by exact hbw)).trans (hcell k hlt)
      have hcon := contains_any v (dd (l.take k)) (l.getD k 0) wr (Row.of_own hown)
      have q0 : wr.cell? ⟨w.heap.size + 1, 0, none⟩ = some v := cell_of_block hblk 0
      have hdl := dd_len (l.take k)
      simp only [List.length_take] at hdl
      have Hdd := hid (dd_take l k hlt)
      clear hcell hc hr
      generalize l.getD k 0 = x at *
      have Hblk := hid hblk
      have Hown := hid hown
      have Hmap := hid hmap
      have Hp := hid hp
      obtain ⟨a1, cap1, rfl⟩ := (Row.of_own hown).shape
      clear hblk hown hmap hp
      by_cases hm : x ∈ dd (l.take k)
      · rw [decide_eq_true hm] at hcon
        have Hcon := hid hcon
        have Hm := hid hm
        clear hm hcon
        go_wp2_with (go_at_call 27; refine Hcon.out.mono ?_; rintro e w' ⟨rfl, rfl⟩)
        go_roundw
        case rel => exact ⟨k + 1, _, by omega, by go_num, Hblk.out, by rw [Hdd.out, if_pos Hm.out]; exact Hown.out, Hmap.out, Hp.out, hsz⟩
        case measure => simp [RowKit.intOf]; omega
      · rw [decide_eq_false hm] at hcon
        have Hcon := hid hcon
        have Hm := hid hm
        clear hm hcon
        go_wp2_with (first
          | (go_at_call 27; refine Hcon.out.mono ?_; rintro e w' ⟨rfl, rfl⟩)
          | (at_builtin; refine wpList_append_own _ rfl _ _ 22 rfl (w.heap.size + 2) 3 i0 (.int .i64 0) 1 8 Try.underlying22 hi hz0 hz1 hz2 rfl (by decide) _ _ _ rfl (Hown.out.alloc _) ⟨wr.heap.size, 0, none⟩ 1 1 [.int .i64 x] rfl rfl hnews_one ?c2 ?c3 ?c4 ?c5 ?_))
        case c2 => intro u hu; simp at hu; subst hu; rfl
        case c3 => unfold maxLen; omega
        case c4 => omega
        case c5 => simp; omega
        intro v2 w2 hown2 hg2 _
        obtain ⟨a2, cap2, rfl⟩ := (Row.of_own hown2).shape
        have hblk2 : w2.heap[w.heap.size + 1]? = some (.cells #[.slice a1 (dd (l.take k)).length cap1, .int .i64 need, .map (some w.heap.size)] 40 (0, 0)) := (hg2.block _ (by simp; omega) (fun e => own_ne Hown.out (by omega) e.symm)).trans (block_alloc_old Hblk.out _)
        have r0 : w2.cell? ⟨w.heap.size + 1, 0, none⟩ = some (.slice a1 (dd (l.take k)).length cap1) := cell_of_block hblk2 0
        have f0 : w2.frozen? ⟨w.heap.size + 1, 0, none⟩ = false := free_of_block hblk2 0
        have hmap2 : IMap Value.bool w2 w.heap.size [] := (Hmap.out.same (Below.heap_alloc _ _ _ (by omega))).same (hg2.block _ (by simp; omega) (fun e => own_ne Hown.out (by omega) e.symm))
        have hp2 : Pure w w2 := (Hp.out.alloc Hp.out.size _).grown hg2 (by simp; omega) (fun j hj => by have := (Hown.out.lt j hj).1; omega)
        have hs2 : wr.heap.size + 1 ≤ w2.heap.size := by have := hg2.size; simpa using this
        have Hblk2 := hid hblk2
        have Hown2 := hid hown2
        have Hmap2 := hid hmap2
        have Hp2 := hid hp2
        clear hblk2 hown2 hmap2 hp2 hg2 q0
        go_wp2
        go_roundw
        case rel =>
          refine ⟨k + 1, .slice a2 ((dd (l.take k)).length + 1) cap2, by omega, by go_num, ?_, ?_, ?_, ?_, ?_⟩
          · simpa using block_setCell Hblk2.out 0 (.slice a2 ((dd (l.take k)).length + 1) cap2)
          · rw [Hdd.out, if_neg Hm.out]; exact ownsRow_snoc (ownsRow_setCell_below Hown2.out (by simp) _)
          · exact Hmap2.out.same (Below.heap_setCell _ _ _ _ (by simp))
          · exact Hp2.out.setCell (by simp) _
          · simp [World.setCell]; omega
        case measure => simp [RowKit.intOf]; omega
    · rw [List.take_of_length_le (by omega)] at hown
      have hlt2 := hown.lt
      go_wp2
      rw [Exit.noGoto_ret]
      go_ret
      have hdl := dd_len l
      refine ⟨w.heap.size + 1, w.heap.size, v, rfl, ⟨hblk, Row.of_own hown, fun e => ?_, fun e => ?_, hmap, dd_wf hwf, by simp; omega, fun x hx => by simp at hx, by simp, by simp⟩, by omega, by omega, fun k hk => ?_, hp⟩
      · have := (hlt2 _ (rb_own e)).1; omega
      · have := (hlt2 _ (rb_own e)).1; omega
      · have := (hlt2 _ (rb_own hk)).1; omega

set_option maxHeartbeats 400000 in
theorem new_no (v : Value) (need : Int) (w : World) (hn : need < 0) :
    Calls Try.prog 10 #[v, .int .i64 need] w fun e w' => e = .returned (.pointer none) ∧ w = w' := by
  go_enter Try.func10, Try.ntmps10
  go_wp2
  go_step3
  go_wp2
  rw [Exit.noGoto_ret]
  go_ret
  exact ⟨rfl, rfl⟩
end Go.Proofs.Ythghccccjmbjlaa
