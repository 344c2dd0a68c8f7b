import Derived.Test.YtffafdkjgllpcaaClaimG
import Derived.Deep.QuietTactic
import Derived.BigQuiet
namespace Go.Proofs.Ytffafdkjgllpcaa
open Go.RowKit Go.Maps

theorem pure_drewN (w : World) (n : Nat) : Pure w (w.drewN n) := ⟨rfl, rfl, rfl, Nat.le_refl _, fun _ _ => rfl⟩

/-- What New has asked of the times. -/
structure CM.Bd (c : CM) : Prop where
  s0 : 0 ≤ c.start
  s1 : c.start ≤ 1125899906842624
  t0 : 1 ≤ c.term
  t1 : c.term ≤ 1073741824
  k0 : 0 ≤ c.skew
  k1 : c.skew ≤ 268435456

set_option maxHeartbeats 1000000 in
theorem until_any (b bm : Nat) (vo : Value) (c : CM) (w : World) (h : ClaimAt w b bm vo c) (hb : c.Bd) :
    Calls Try.prog 18 #[.pointer (some ⟨b, 0, none⟩)] w fun e w' => e = .returned (.int .i64 (c.start + c.term)) ∧ ∃ n, w' = w.drewN n := by
  have hm := hid (made_yes b bm vo c w h)
  have k4 : w.cell? ⟨b, 4, none⟩ = some (.int .i64 c.start) := cell_of_block h.blk 4
  have k5 : w.cell? ⟨b, 5, none⟩ = some (.int .i64 c.term) := cell_of_block h.blk 5
  have hwrap := IntWalk.i64_in (c.start + c.term) (by have := hb.s0; have := hb.s1; have := hb.t0; have := hb.t1; omega)
  clear h hb
  go_enter Try.func18, Try.ntmps18
  go_wp2_with (go_at_call 33; refine hm.out.mono ?_; rintro e w' ⟨rfl, rfl⟩)
  go_quiet (fail)
  go_wp2
  go_ret
  exact ⟨rfl, _, rfl⟩

theorem until_drewN (b bm : Nat) (vo : Value) (c : CM) (w : World) (n : Nat) (h : ClaimAt w b bm vo c) (hb : c.Bd) :
    Calls Try.prog 18 #[.pointer (some ⟨b, 0, none⟩)] (w.drewN n) fun e w' => e = .returned (.int .i64 (c.start + c.term)) ∧ ∃ m, w' = (w.drewN n).drewN m :=
  until_any b bm vo c _ (h.pure (pure_drewN w n)) hb

set_option maxHeartbeats 1000000 in
theorem over_any (b bm : Nat) (vo : Value) (c : CM) (w : World) (h : ClaimAt w b bm vo c) (hb : c.Bd) :
    Calls Try.prog 19 #[.pointer (some ⟨b, 0, none⟩)] w fun e w' => e = .returned (.int .i64 (c.start + c.term - 2 * c.skew)) ∧ ∃ n, w' = w.drewN n := by
  have hm := hid (made_yes b bm vo c w h)
  have hu := hid (fun n => until_drewN b bm vo c w n h hb)
  have k6 : w.cell? ⟨b, 6, none⟩ = some (.int .i64 c.skew) := cell_of_block h.blk 6
  have hwrap1 := IntWalk.i64_in (2 * c.skew) (by have := hb.k0; have := hb.k1; omega)
  have hwrap := IntWalk.i64_in (c.start + c.term - 2 * c.skew) (by have := hb.s0; have := hb.s1; have := hb.t0; have := hb.t1; have := hb.k0; have := hb.k1; omega)
  clear h hb
  go_enter Try.func19, Try.ntmps19
  go_wp2_with (go_at_call 33; refine hm.out.mono ?_; rintro e w' ⟨rfl, rfl⟩)
  go_quiet ((go_at_call 18; exact Calls.quiet_of (hu.out _)))
  go_wp2
  go_ret
  exact ⟨rfl, _, rfl⟩

set_option maxHeartbeats 1000000 in
theorem valid_any (b bm : Nat) (vo : Value) (c : CM) (now : Int) (w : World) (h : ClaimAt w b bm vo c) (hb : c.Bd) :
    Calls Try.prog 26 #[.pointer (some ⟨b, 0, none⟩), .int .i64 now] w fun e w' => e = .returned (.bool (decide (c.state = 1) && decide (now < c.start + c.term - 2 * c.skew))) ∧ ∃ n, w' = w.drewN n := by
  have hs := hid (state_yes b bm vo c w h)
  have ho := hid (over_any b bm vo c w h hb)
  clear h hb
  by_cases h1 : c.state = 1
  · have e1 : (c.state == 1) = true := by simp [h1]
    simp only [h1, decide_true, Bool.true_and]
    generalize c.state = st at *
    generalize c.start + c.term - 2 * c.skew = ov at *
    clear h1
    go_enter Try.func26, Try.ntmps26
    go_wp2_with (first
      | (go_at_call 11; refine hs.out.mono ?_; rintro e w' ⟨rfl, rfl⟩)
      | (go_at_call 19; refine ho.out.mono ?_; rintro e w' ⟨rfl, n, rfl⟩))
    go_ret
    exact ⟨rfl, _, rfl⟩
  · have e1 : (c.state == 1) = false := by simp [h1]
    simp only [h1, decide_false, Bool.false_and]
    generalize c.state = st at *
    clear h1
    go_enter Try.func26, Try.ntmps26
    go_wp2_with (go_at_call 11; refine hs.out.mono ?_; rintro e w' ⟨rfl, rfl⟩)
    go_ret
    exact ⟨rfl, 0, rfl⟩

def CM.ended (c : CM) : CM := if c.state = 1 then { c with state := 3 } else if c.state = 0 then { c with state := 2 } else c

set_option maxHeartbeats 1000000 in
theorem end_any (b bm : Nat) (vo : Value) (c : CM) (w : World) (h : ClaimAt w b bm vo c) :
    Calls Try.prog 13 #[.pointer (some ⟨b, 0, none⟩)] w fun e w' => e = .returned (.tuple #[]) ∧ ClaimAt w' b bm vo c.ended ∧ Kept (fun k => k = b ∨ k = bm) w w' := by
  have hs := hid (state_yes b bm vo c w h)
  have k8 : w.cell? ⟨b, 8, none⟩ = some (.int .i64 c.state) := cell_of_block h.blk 8
  have f8 : w.frozen? ⟨b, 8, none⟩ = false := free_of_block h.blk 8
  have H := hid h
  clear h
  unfold CM.ended
  by_cases h1 : c.state = 1
  · have e1 : (c.state == 1) = true := by simp [h1]
    simp only [h1, if_true]
    clear h1
    generalize hst : c.state = st at *
    clear hst
    go_enter Try.func13, Try.ntmps13
    go_wp2_with (go_at_call 11; refine hs.out.mono ?_; rintro e w' ⟨rfl, rfl⟩)
    go_end0
    exact ⟨rfl, H.out.setState 3, (Kept.refl _ _).setCell (fun _ => .inl rfl) _⟩
  · have e1 : (c.state == 1) = false := by simp [h1]
    by_cases h0 : c.state = 0
    · have e0 : (c.state == 0) = true := by simp [h0]
      rw [if_neg h1, if_pos h0]
      clear h1 h0
      generalize hst : c.state = st at *
      clear hst
      go_enter Try.func13, Try.ntmps13
      go_wp2_with (go_at_call 11; refine hs.out.mono ?_; rintro e w' ⟨rfl, rfl⟩)
      go_end0
      exact ⟨rfl, H.out.setState 2, (Kept.refl _ _).setCell (fun _ => .inl rfl) _⟩
    · have e0 : (c.state == 0) = false := by simp [h0]
      rw [if_neg h1, if_neg h0]
      clear h1 h0
      generalize hst : c.state = st at *
      clear hst
      go_enter Try.func13, Try.ntmps13
      go_wp2_with (go_at_call 11; refine hs.out.mono ?_; rintro e w' ⟨rfl, rfl⟩)
      go_end0
      exact ⟨rfl, H.out, Kept.refl _ _⟩
end Go.Proofs.Ytffafdkjgllpcaa
