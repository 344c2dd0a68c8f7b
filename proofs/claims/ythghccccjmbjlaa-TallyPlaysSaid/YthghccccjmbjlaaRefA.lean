import Derived.Test.YthghccccjmbjlaaCounts
import Derived.Laws.AppendOwnNone
namespace Go.Proofs.Ythghccccjmbjlaa
open Go.RowKit Go.Maps
/-! The document's own: ref08's Has, Majority; ref16's Once; ref17's tally. -/

set_option maxHeartbeats 400000 in
theorem has_any (v : Value) (l : List Int) (x : Int) (w : World) (hr : Ints w v l) :
    Calls Try.prog 32 #[v, .int .i64 x] w fun e w' => e = .returned (.bool (decide (x ∈ l))) ∧ w = w' := by
  obtain ⟨a, cap, rfl⟩ := hr.shape
  obtain ⟨_, h1, h2, hc⟩ := hr.cell
  unfold maxLen at h2
  go_enter Try.func32, Try.ntmps32
  go_wp2
  go_loop [5] (fun i => ∃ k : Nat, k ≤ l.length ∧ i = .int .i64 k ∧ x ∉ l.take k) (fun i => l.length - (RowKit.intOf i).toNat)
  case atStart => exact ⟨0, Nat.zero_le _, rfl, by simp⟩
  case round =>
    obtain ⟨k, hk, rfl, hn⟩ := hrel
    by_cases hlt : k < l.length
    · obtain ⟨b, off, rfl, hbw, hcell⟩ : ∃ b off, a = some ⟨b, off, none⟩ ∧ b < w.heap.size ∧ ∀ i, i < l.length → w.cell? ⟨b, off + i, none⟩ = some (.int .i64 (l.getD i 0)) := by
        rcases hc with ⟨h, _⟩ | h
        · rw [h] at hlt; exact absurd hlt (Nat.not_lt_zero _)
        · exact h
      have hcx := hcell k hlt
      by_cases he : x = l.getD k 0
      · have Hx := hid (show decide (x ∈ l) = true by rw [he]; simp [List.getD, hlt])
        have ht : (l.getD k 0 == x) = true := by simpa using he.symm
        clear hcell hc hn he
        generalize l.getD k 0 = y at *
        go_wp2
        go_ret
        exact ⟨ret_bool Hx.out.symm, rfl⟩
      · have hn' := notin_take hlt hn he
        have Hn := hid hn'
        have ht : (l.getD k 0 == x) = false := by simpa using fun e => he e.symm
        clear hcell hc hn he hn'
        generalize l.getD k 0 = y at *
        go_wp2
        go_round
        case rel => exact ⟨k + 1, by omega, by go_num, Hn.out⟩
        case measure => simp [RowKit.intOf]; omega
    · have Hx := hid (show decide (x ∈ l) = false by rw [List.take_of_length_le (by omega)] at hn; simpa using hn)
      clear hc hn
      go_wp2
      go_ret
      exact ⟨ret_bool Hx.out.symm, rfl⟩

set_option maxHeartbeats 400000 in
theorem major_any (n : Nat) (w : World) (h1 : n ≤ 1000000) :
    Calls Try.prog 37 #[.int .i64 n] w fun e w' => e = .returned (.int .i64 ((n : Int) / 2 + 1)) ∧ w = w' := by
  by_cases hn : (n : Int) < 1
  · go_enter Try.func37, Try.ntmps37
    go_wp2
    go_ret
    exact ⟨ret_int (by omega), rfl⟩
  · go_enter Try.func37, Try.ntmps37
    go_wp2
    go_ret
    exact ⟨rfl, rfl⟩

set_option maxHeartbeats 1000000 in
theorem once16_any (v : Value) (l : List Int) (w : World) (hr : Ints w v l) (hl : l.length ≤ 1000000) :
    Calls Try.prog 28 #[v] w fun e w' => ∃ v', e = .returned v' ∧ w'.ownsRow w.heap.size 3 1 v' (dd l).length ((dd l).map (Value.int .i64)) ∧ Pure w w' := by
  obtain ⟨a, cap, rfl⟩ := hr.shape
  obtain ⟨i0, hi, hz0, hz1, hz2⟩ := info_parts infoInt
  have Hr := hid hr
  clear hr
  go_enter Try.func28, Try.ntmps28
  go_wp2
  go_loopw [3, 4] (fun v i wr => ∃ k : Nat, k ≤ l.length ∧ i = .int .i64 k ∧ wr.ownsRow w.heap.size 3 1 v (dd (l.take k)).length ((dd (l.take k)).map (Value.int .i64)) ∧ Pure w wr)
    (fun _ i _ => l.length - (RowKit.intOf i).toNat)
  case atStart => exact ⟨0, Nat.zero_le _, rfl, World.ownsRow_nil _ _ _ _, Below.refl _ _⟩
  case round =>
    obtain ⟨k, hk, rfl, hown, hb⟩ := hrel
    by_cases hlt : k < l.length
    · obtain ⟨bl, off, rfl, hcx⟩ := ints_get (show Ints wr (.slice a l.length cap) l from Row.pure Hr.out hb) hlt
      obtain ⟨a3, c3, rfl⟩ := (Row.of_own hown).shape
      have hh := has_any _ _ (l.getD k 0) wr (show Ints wr _ _ from Row.of_own hown)
      have Hdd := hid (dd_take l k hlt)
      have hdl := dd_len (l.take k)
      simp only [List.length_take] at hdl
      have hlt' : (k : Int) < (l.length : Int) := by omega
      have Hown := hid hown
      have Hb := hid hb
      clear hown hb
      generalize l.getD k 0 = x at *
      by_cases hm : x ∈ dd (l.take k)
      · rw [decide_eq_true hm] at hh
        have Hm := hid hm
        have Hh := hid hh
        clear hm hh
        go_wp2_with (go_at_call 32; refine Hh.out.mono ?_; rintro e w' ⟨rfl, rfl⟩)
        go_roundw
        case rel => exact ⟨k + 1, by omega, by go_num, by rw [Hdd.out, if_pos Hm.out]; exact Hown.out, Hb.out⟩
        case measure => simp [RowKit.intOf]; omega
      · rw [decide_eq_false hm] at hh
        have Hm := hid hm
        have Hh := hid hh
        clear hm hh
        go_wp2_with (first
          | (go_at_call 32; refine Hh.out.mono ?_; rintro e w' ⟨rfl, rfl⟩)
          | (at_builtin; refine wpList_append_own _ rfl _ _ 22 rfl w.heap.size 3 i0 (.int .i64 0) 1 8 Try.underlying22 hi hz0 hz1 hz2 rfl (by decide) _ _ _ rfl (Hown.out.alloc _) ⟨wr.heap.size, 0, none⟩ 1 1 [.int .i64 x] rfl rfl hnews_one ?c2 ?c3 ?c4 ?c5 ?_))
        case c2 => intro u hu; simp at hu; subst hu; rfl
        case c3 => unfold maxLen; omega
        case c4 => omega
        case c5 => have := Hb.out.size; simp; omega
        intro v' w2 hown2 hg2 _
        have Hown2 := hid hown2
        have Hg2 := hid hg2
        clear hown2 hg2
        go_wp2
        go_roundw
        case rel =>
          refine ⟨k + 1, by omega, by go_num, ?_, ?_⟩
          · rw [Hdd.out, if_neg Hm.out]; exact ownsRow_snoc Hown2.out
          · exact (Hb.out.alloc Hb.out.size _).grown Hg2.out (by have := Hb.out.size; simp; omega) (fun j hj => (Hown.out.lt j hj).1)
        case measure => simp [RowKit.intOf]; omega
    · have e : l.take k = l := List.take_of_length_le (by omega)
      rw [e] at hown
      obtain ⟨a3, c3, rfl⟩ := (Row.of_own hown).shape
      have Hown := hid hown
      have Hb := hid hb
      clear hown hb e
      go_wp2
      go_ret
      exact ⟨_, rfl, Hown.out, Hb.out⟩

/-- The document's tally: its owners, its need, who has done it, rising. -/
structure RM where
  owners : List Int
  need : Int
  yes : List Int
structure RefAt (w : World) (b : Nat) (vo vy : Value) (r : RM) : Prop where
  blk : w.heap[b]? = some (.cells #[vo, I r.need, vy] 32 (0, 0))
  own : Ints w vo r.owners
  yes : Ints w vy r.yes
  sepo : vo.rb ≠ some b
  sepy : vy.rb ≠ some b
  plain : ∃ p n c, vy = .slice p n c ∧ (p = none ∨ ∃ g o, p = some ⟨g, o, none⟩)
  olen : r.owners.length ≤ 1000
  ylen : r.yes.length ≤ 1000
theorem RefAt.kept {w w' : World} {b : Nat} {vo vy : Value} {r : RM} {S : Nat → Prop} (h : RefAt w b vo vy r) (hk : Kept S w w') (h1 : ¬ S b) (h2 : ∀ k, vo.rb = some k → ¬ S k) (h3 : ∀ k, vy.rb = some k → ¬ S k) : RefAt w' b vo vy r :=
  ⟨(hk.block b (lt_of_block h.blk) h1).trans h.blk, h.own.kept hk h2, h.yes.kept hk h3, h.sepo, h.sepy, h.plain, h.olen, h.ylen⟩
theorem RefAt.pure {w w' : World} {b : Nat} {vo vy : Value} {r : RM} (h : RefAt w b vo vy r) (hk : Pure w w') : RefAt w' b vo vy r :=
  h.kept (S := fun _ => False) hk.kept (fun h => h) (fun _ _ h => h) (fun _ _ h => h)

set_option maxHeartbeats 1000000 in
theorem rnew_ok (v : Value) (l : List Int) (need : Int) (w : World) (hr : Ints w v l) (hl : l.length ≤ 1000) (hn : 0 ≤ need) :
    Calls Try.prog 11 #[v, .int .i64 need] w fun e w' => ∃ b vo, e = .returned (.pointer (some ⟨b, 0, none⟩)) ∧ RefAt w' b vo (.slice none 0 0) ⟨dd l, need, []⟩ ∧ w.heap.size ≤ b ∧ (∀ k, vo.rb = some k → w.heap.size ≤ k) ∧ Pure w w' := by
  have ho := hid (once16_any v l w hr (by omega))
  have hdl := dd_len l
  obtain ⟨a, cap, rfl⟩ := hr.shape
  clear hr
  go_enter Try.func11, Try.ntmps11
  go_wp2_with (go_at_call 28; refine ho.out.mono ?_; rintro e w1 ⟨v1, rfl, hown1, hp1⟩; obtain ⟨a1, c1, rfl⟩ := (Row.of_own hown1).shape; have Hown1 := hid hown1; have Hp1 := hid hp1; clear hown1 hp1)
  go_ret
  have hlt := Hown1.out.lt
  refine ⟨w1.heap.size, _, rfl, ⟨block_alloc_new _ _, Row.of_own (Hown1.out.alloc _), Row.nil _ _, fun e => ?_, by simp [Value.rb], ⟨_, _, _, rfl, .inl rfl⟩, by show (dd l).length ≤ 1000; omega, by simp⟩, Hp1.out.size, fun k hk => (hlt k (rb_own hk)).1, Hp1.out.alloc Hp1.out.size _⟩
  have := (hlt _ (rb_own e)).2; omega

set_option maxHeartbeats 400000 in
theorem rnew_no (v : Value) (need : Int) (w : World) (hn : need < 0) :
    Calls Try.prog 11 #[v, .int .i64 need] w fun e w' => e = .returned (.pointer none) ∧ w = w' := by
  go_enter Try.func11, Try.ntmps11
  go_wp2
  go_ret
  exact ⟨rfl, rfl⟩
end Go.Proofs.Ythghccccjmbjlaa
