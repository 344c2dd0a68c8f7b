/- The program's New and the document's where they refuse; Plan.few; the program's Owners, Dot, Receipt. -/
import Derived.Test.YtffafdkjgllpcaaPlaysE
namespace Go.Proofs.Ytffafdkjgllpcaa
open Go.RowKit Go.Maps

/-- What the document's New refuses. -/
def rbad (K start term skew : Int) : Bool := (K == 0 || decide (64 < K) || decide (start < 0) || decide (1125899906842624 < start) || decide (term < 1) || decide (1073741824 < term) || decide (skew < 0) || decide (268435456 < skew) || decide (term ≤ 2 * skew))

set_option maxHeartbeats 1000000 in
theorem rnew_no (d1 d2 receipt start term skew : Int) (v : Value) (l : List Int) (w : World) (hr : Ints w v l) (hl : l.length ≤ 1000000) (hbad : rbad ((dd l).length : Int) start term skew = true) :
    Calls Try.prog 15 #[.agg #[.int .i64 d1, .int .i64 d2], .int .i64 receipt, v, .int .i64 start, .int .i64 term, .int .i64 skew] w fun e w' => e = .returned (.pointer none) ∧ Pure w w' := by
  have hon := fun W (hW : Pure w W) => once16_any v l W (hr.pure hW) hl
  have Hon := hid hon
  obtain ⟨a, cap, rfl⟩ := hr.shape
  unfold rbad at hbad
  clear hr hon
  have hp0 := hid (show ∀ o, Pure w (w.alloc o) from fun o => (Below.refl _ _).alloc (Nat.le_refl _) o)
  by_cases hs : 0 ≤ skew ∧ skew ≤ 268435456
  · have hw2 := IntWalk.i64_in (2 * skew) (by omega)
    have e1 : decide (skew < 0) = false := by simp; omega
    have e2 : decide (268435456 < skew) = false := by simp; omega
    rw [e1, e2] at hbad
    simp only [Bool.or_false] at hbad
    clear hs
    go_enter Try.func15, Try.ntmps15
    go_wp2_with fail
    refine (Hon.out _ (hp0.out _)).mono ?_
    rintro e w1 ⟨vo, rfl, hown, hb⟩
    obtain ⟨a1, cap1, rfl⟩ := (Ints.shape (Row.of_own hown))
    have Hb := hid ((hp0.out _).then_ hb)
    clear hown hb
    generalize (dd l).length = K at *
    go_wp2
    all_goals
      go_ret
      exact ⟨rfl, Hb.out⟩
  · have e : (decide (skew < 0) || decide (268435456 < skew)) = true := by simp; omega
    clear hs hbad
    go_enter Try.func15, Try.ntmps15
    go_wp2_with fail
    refine (Hon.out _ (hp0.out _)).mono ?_
    rintro e w1 ⟨vo, rfl, hown, hb⟩
    obtain ⟨a1, cap1, rfl⟩ := (Ints.shape (Row.of_own hown))
    have Hb := hid ((hp0.out _).then_ hb)
    clear hown hb
    generalize (dd l).length = K at *
    rcases Int.lt_or_le skew 0 with h0 | h0
    · go_wp2
      all_goals
        go_ret
        exact ⟨rfl, Hb.out⟩
    · have h1 : 268435456 < skew := by simp at e; omega
      go_wp2
      all_goals
        go_ret
        exact ⟨rfl, Hb.out⟩

def bad1 (K start term skew : Int) : Bool := (!within K 1 64 || !within start 0 1125899906842624 || !within term 1 1073741824 || !within skew 0 268435456 || decide (term ≤ 2 * skew))
theorem bad_eq (K start term skew : Int) (hK : 0 ≤ K) : bad1 K start term skew = rbad K start term skew := by
  unfold bad1 rbad within
  rw [Bool.eq_iff_iff]
  simp only [Bool.or_eq_true, Bool.not_eq_true', Bool.and_eq_false_iff, decide_eq_false_iff_not, decide_eq_true_eq, beq_iff_eq]
  omega

theorem bad1_cases {K start term skew : Int} (h : bad1 K start term skew = true) :
    within K 1 64 = false ∨ (within K 1 64 = true ∧ within start 0 1125899906842624 = false) ∨ (within K 1 64 = true ∧ within start 0 1125899906842624 = true ∧ within term 1 1073741824 = false) ∨
    (within K 1 64 = true ∧ within start 0 1125899906842624 = true ∧ within term 1 1073741824 = true ∧ within skew 0 268435456 = false) ∨
    (within K 1 64 = true ∧ within start 0 1125899906842624 = true ∧ within term 1 1073741824 = true ∧ within skew 0 268435456 = true ∧ term ≤ 2 * skew ∧ 0 ≤ skew ∧ skew ≤ 268435456) := by
  unfold bad1 at h
  cases h1 : within K 1 64
  · simp
  · cases h2 : within start 0 1125899906842624
    · simp
    · cases h3 : within term 1 1073741824
      · simp
      · cases h4 : within skew 0 268435456
        · simp
        · rw [h1, h2, h3, h4] at h
          have h5 : 0 ≤ skew ∧ skew ≤ 268435456 := by simpa [within] using h4
          simp at h
          simp; omega

set_option maxHeartbeats 1000000 in
theorem new_no (d1 d2 receipt start term skew : Int) (v : Value) (l : List Int) (w : World) (hr : Ints w v l) (hl : l.length ≤ 1000000) (hwf : AllWf l) (hbad : rbad ((dd l).length : Int) start term skew = true) :
    Calls Try.prog 9 #[.agg #[.int .i64 d1, .int .i64 d2], .int .i64 receipt, v, .int .i64 start, .int .i64 term, .int .i64 skew] w fun e w' => e = .returned (.pointer none) ∧ Pure w w' := by
  have Hon := hid (fun W (hW : Pure w W) => once_any v l W (hr.pure hW) hl hwf)
  obtain ⟨a, cap, rfl⟩ := hr.shape
  have hp0 := hid (show ∀ o, Pure w (w.alloc o) from fun o => (Below.refl _ _).alloc (Nat.le_refl _) o)
  rw [← bad_eq _ _ _ _ (by omega)] at hbad
  clear hr
  rcases bad1_cases hbad with t1 | ⟨t1, t2⟩ | ⟨t1, t2, t3⟩ | ⟨t1, t2, t3, t4⟩ | ⟨t1, t2, t3, t4, t5, t6, t7⟩
  case' inr.inr.inr.inr => have hw2 := IntWalk.i64_in (2 * skew) (by omega)
  all_goals
    clear hbad
    go_enter Try.func9, Try.ntmps9
    go_wp2_with fail
    refine (Hon.out _ (hp0.out _)).mono ?_
    rintro e w1 ⟨vo, rfl, hown, hb⟩
    obtain ⟨a1, cap1, rfl⟩ := (Ints.shape (Row.of_own hown))
    have Hb := hid ((hp0.out _).then_ hb)
    clear hown hb
    generalize (dd l).length = K at *
    go_wp2_with (go_at_call 29; refine (within_any _ _ _ _).mono ?_; rintro e w' ⟨rfl, rfl⟩)
    go_ret
    exact ⟨rfl, Hb.out⟩

set_option maxHeartbeats 1000000 in
theorem owners_any (b bm : Nat) (vo : Value) (c : CM) (w : World) (h : ClaimAt w b bm vo c) (hl : c.owners.length ≤ 1000000) :
    Calls Try.prog 17 #[.pointer (some ⟨b, 0, none⟩)] w fun e w' => ∃ v', e = .returned v' ∧ Ints w' v' c.owners ∧ Pure w w' := by
  have hm := hid (made_yes b bm vo c w h)
  have k3 : w.cell? ⟨b, 3, none⟩ = some vo := cell_of_block h.blk 3
  have hc := hid (clone_any vo c.owners w h.own hl)
  obtain ⟨a, cap, rfl⟩ := h.own.shape
  clear h
  go_enter Try.func17, Try.ntmps17
  go_wp2_with (first
    | (go_at_call 33; refine hm.out.mono ?_; rintro e w' ⟨rfl, rfl⟩)
    | (go_at_call 35; refine hc.out.mono ?_; rintro e w' ⟨v', rfl, hown, hp⟩; have Hown := hid hown; have Hp := hid hp; obtain ⟨a1, c1, rfl⟩ := own_shape hown; clear hown hp))
  go_ret
  exact ⟨_, rfl, Row.of_own Hown.out, Hp.out⟩

set_option maxHeartbeats 1000000 in
theorem receipt_any (b bm : Nat) (vo : Value) (c : CM) (w : World) (h : ClaimAt w b bm vo c) :
    Calls Try.prog 21 #[.pointer (some ⟨b, 0, none⟩)] w fun e w' => e = .returned (.int .i64 c.receipt) ∧ w = w' := by
  have hm := hid (made_yes b bm vo c w h)
  have k3 : w.cell? ⟨b, 2, none⟩ = some (.int .i64 c.receipt) := cell_of_block h.blk 2
  clear h
  go_enter Try.func21, Try.ntmps21
  go_wp2_with (go_at_call 33; refine hm.out.mono ?_; rintro e w' ⟨rfl, rfl⟩)
  go_ret
  exact ⟨rfl, rfl⟩

set_option maxHeartbeats 1000000 in
theorem dot_any (b bm : Nat) (vo : Value) (c : CM) (w : World) (h : ClaimAt w b bm vo c) :
    Calls Try.prog 20 #[.pointer (some ⟨b, 0, none⟩)] w fun e w' => e = .returned (.agg #[.int .i64 c.d1, .int .i64 c.d2]) ∧ Pure w w' := by
  have h2 := h.pure ((Below.refl _ _).alloc (Nat.le_refl _) (.cells #[.int .i64 0, .int .i64 0] 27))
  have hm := hid (made_yes b bm vo c _ h2)
  have k0 : w.cell? ⟨b, 0, none⟩ = some (.int .i64 c.d1) := cell_of_block h.blk 0
  have k1 : w.cell? ⟨b, 1, none⟩ = some (.int .i64 c.d2) := cell_of_block h.blk 1
  have hbw := lt_of_block h.blk
  clear h h2
  go_enter Try.func20, Try.ntmps20
  go_wp2_with (go_at_call 33; refine hm.out.mono ?_; rintro e w' ⟨rfl, rfl⟩)
  exact bodyPost_ret (v := .agg #[.int .i64 c.d1, .int .i64 c.d2]) (by simp [results, Try.results20, go_sem]) rfl ⟨rfl, (Below.refl _ _).alloc (Nat.le_refl _) _⟩
end Go.Proofs.Ytffafdkjgllpcaa
