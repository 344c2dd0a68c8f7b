import Derived.Test.YthghccccjmbjlaaTallyD
namespace Go.Proofs.Ythghccccjmbjlaa
open Go.RowKit Go.Maps

set_option maxHeartbeats 400000 in
theorem in_any (v : Value) (l : List Int) (x : Int) (w : World) (hr : Ints w v l) :
    Calls Try.prog 26 #[v, .int .i64 x] w fun e w' => e = .returned (.bool (decide (x ∈ l))) ∧ w = w' := by
  obtain ⟨a, cap, rfl⟩ := hr.shape
  obtain ⟨_, h1, h2, hc⟩ := hr.cell
  unfold maxLen at h2
  go_enter Try.func26, Try.ntmps26
  go_wp2
  go_loop [5] (fun i => ∃ k : Nat, k ≤ l.length ∧ i = .int .i64 k ∧ x ∉ l.take k) (fun i => l.length - (RowKit.intOf i).toNat)
  case atStart => exact ⟨0, Nat.zero_le _, rfl, by simp⟩
  case round =>
    obtain ⟨k, hk, rfl, hn⟩ := hrel
    by_cases hlt : k < l.length
    · obtain ⟨b, off, rfl, hbw, hcell⟩ : ∃ b off, a = some ⟨b, off, none⟩ ∧ b < w.heap.size ∧ ∀ i, i < l.length → w.cell? ⟨b, off + i, none⟩ = some (.int .i64 (l.getD i 0)) := by
        rcases hc with ⟨h, _⟩ | h
        · rw [h] at hlt; exact absurd hlt (Nat.not_lt_zero _)
        · exact h
      have hcx := hcell k hlt
      by_cases he : x = l.getD k 0
      · have Hx := hid (show decide (x ∈ l) = true by rw [he]; simp [List.getD, hlt])
        have ht : (l.getD k 0 == x) = true := by simpa using he.symm
        clear hcell hc hn he
        generalize l.getD k 0 = y at *
        go_wp2
        go_ret
        exact ⟨ret_bool Hx.out.symm, rfl⟩
      · have hn' := notin_take hlt hn he
        have Hn := hid hn'
        have ht : (l.getD k 0 == x) = false := by simpa using fun e => he e.symm
        clear hcell hc hn he hn'
        generalize l.getD k 0 = y at *
        go_wp2
        go_round
        case rel => exact ⟨k + 1, by omega, by go_num, Hn.out⟩
        case measure => simp [RowKit.intOf]; omega
    · have Hx := hid (show decide (x ∈ l) = false by rw [List.take_of_length_le (by omega)] at hn; simpa using hn)
      clear hc hn
      go_wp2
      go_ret
      exact ⟨ret_bool Hx.out.symm, rfl⟩

def few (l : List Int) : List Int := l.take 20
theorem few_le (l : List Int) : (few l).length ≤ 20 := by unfold few; simp; omega
theorem few_wf {l : List Int} (h : AllWf l) : AllWf (few l) := fun x hx => h x (List.mem_of_mem_take hx)
theorem ints_take {w : World} {a : Option Addr} {cap : Nat} {l : List Int} (h : Ints w (.slice a l.length cap) l) (hl : 20 < l.length) : Ints w (.slice a 20 cap) (few l) := by
  obtain ⟨_, h1, h2, hc⟩ := h.cell
  have e : (few l).length = 20 := by unfold few; simp; omega
  refine ⟨by simp, a, cap, by rw [e], by omega, h2, ?_⟩
  rcases hc with ⟨h, hz⟩ | ⟨b, off, rfl, hb, hcell⟩
  · exact .inl hz
  · refine .inr ⟨b, off, rfl, hb, fun i hi => ?_⟩
    rw [e] at hi
    rw [hcell i (by omega)]
    unfold few
    simp [List.getD, show i < l.length by omega, show i < 20 by omega]

set_option maxHeartbeats 400000 in
theorem few_any (v : Value) (l : List Int) (w : World) (hr : Ints w v l) :
    Calls Try.prog 9 #[v] w fun e w' => ∃ v', e = .returned v' ∧ Ints w v' (few l) ∧ (∀ k, v'.rb = some k → v.rb = some k) ∧ w = w' := by
  obtain ⟨a, cap, rfl⟩ := hr.shape
  obtain ⟨_, h1, h2, hc⟩ := hr.cell
  by_cases hl : 20 < l.length
  · have Hr := hid (ints_take hr hl)
    have hcap : 20 ≤ cap := by omega
    obtain ⟨b, off, rfl⟩ : ∃ b off, a = some ⟨b, off, none⟩ := by
      rcases hc with ⟨h, _⟩ | ⟨b, off, h, _⟩
      · rw [h] at hl; simp at hl
      · exact ⟨b, off, h⟩
    clear hr hc
    have hl' : (20 : Int) < (l.length : Int) := by omega
    go_enter Try.func9, Try.ntmps9
    go_wp2
    go_ret
    exact ⟨_, rfl, Hr.out, fun _ h => h, rfl⟩
  · have e : few l = l := by unfold few; rw [List.take_of_length_le (by omega)]
    have Hr := hid hr
    rw [e]
    clear hr hc e
    go_enter Try.func9, Try.ntmps9
    go_wp2
    go_ret
    exact ⟨_, rfl, Hr.out, fun _ h => h, rfl⟩

/-! The chapter's examples. -/
def t0 : TM := ⟨[1, 2, 3], 2, []⟩
def t1 : TM := ⟨[1, 2, 3], 2, [1]⟩
def t2 : TM := ⟨[1, 2, 3], 2, [1, 9]⟩
theorem t_wf : AllWf [1, 2, 3] := by intro x hx; simp at hx; rcases hx with rfl | rfl | rfl <;> rfl
theorem t_1 : t0.add 1 = t1 := rfl
theorem t_2 : t1.add 9 = t2 := rfl
theorem t_m : t2.missing = [2, 3] := by decide
theorem t_s : srt t2.yes = [1, 9] := by unfold srt t2; first | exact List.mergeSort_of_pairwise (by decide) | exact List.mergeSort_of_sorted (by decide)
theorem t_o : t2.others = [9] := by unfold TM.others; rw [t_s]; decide
theorem yes_at (b bm : Nat) (vo : Value) (c d : TM) (node : Int) (w : World) (h : TallyAt w b bm vo c) (hwf : (Lit.int .i64 node).wf = true) (hl : c.yes.length < 1000) (v : Bool) (hv : decide (node ∉ c.yes) = v) (hd : c.add node = d) :
    Calls Try.prog 24 #[.pointer (some ⟨b, 0, none⟩), .int .i64 node] w fun e w' => e = .returned (.bool v) ∧ TallyAt w' b bm vo d ∧ Kept (fun k => k = b ∨ k = bm) w w' := by
  subst hv; subst hd; exact yes_any b bm vo c node w h hwf hl
theorem same_at {v u : Value} {l k : List Int} {w : World} (hv : Ints w v l) (hu : Ints w u k) (r : Bool) (hr : decide (l = k) = r) :
    Calls Try.prog 12 #[v, u] w fun e w' => e = .returned (.bool r) ∧ Pure w w' := by
  subst hr; exact same_any v u l k w hv hu

set_option maxHeartbeats 2000000 in
theorem awake_any (w : World) : Calls Try.prog 8 #[] w fun e w' => e = .returned (.bool true) ∧ Pure w w' := by
  have hn := hid (fun (W : World) v (hv : Ints W v [1, 2, 3]) => new_ok v [1, 2, 3] 2 W hv (by decide) t_wf (by decide))
  have hP : Pure w (w.alloc (.cells #[.int .i64 1, .int .i64 2, .int .i64 3] 3)) := (Below.refl _ _).alloc (Nat.le_refl _) _
  have HP := hid hP
  clear hP
  go_enter Try.func8, Try.ntmps8
  go_wp2_with fail
  refine (hn.out _ _ (ints_lit (l := [1, 2, 3]) (by decide))).mono ?_
  rintro e w1 ⟨b, bm, vo, rfl, hA, hb, hbm, hvo, hp⟩
  go_wp2_with fail
  refine (yes_at b bm vo _ t1 1 w1 hA rfl (by decide) true rfl rfl).mono ?_
  rintro e w2 ⟨rfl, hA2, hk2⟩
  go_wp2_with fail
  refine (yes_at b bm vo t1 t2 9 w2 hA2 rfl (by decide) true rfl rfl).mono ?_
  rintro e w3 ⟨rfl, hA3, hk3⟩
  have hpw : Pure w w3 := ((HP.out.then_ hp).kept_then (hk2.trans hk3) (fun k hk => by simp at hb hbm; omega))
  have Hpw := hid hpw
  have HA3 := hid hA3
  clear hpw hA hb hbm hvo hp hA2 hk2 hA3 hk3
  go_wp2_with fail
  refine (missing_any b bm vo t2 w3 HA3.out).mono ?_
  rintro e w4 ⟨v4, rfl, hown4, hp4⟩
  rw [t_m] at hown4
  have hi4 := Row.of_own hown4
  have Hi := hid (same_at (hi4.pure ((Below.refl _ w4).alloc (Nat.le_refl _) _)) (ints_lit (w := w4) (l := [2, 3]) (by decide)) true rfl)
  have Hp4 := hid (Hpw.out.then_ hp4)
  have HA4 := hid (HA3.out.pure (hp4.then_ ((Below.refl _ w4).alloc (Nat.le_refl _) (.cells #[.int .i64 2, .int .i64 3] 3))))
  have Hq4 := hid (Hp4.out.then_ ((Below.refl _ w4).alloc (Nat.le_refl _) (.cells #[.int .i64 2, .int .i64 3] 3)))
  obtain ⟨a4, cap4, rfl⟩ := hi4.shape
  clear hown4 hp4 hi4
  go_wp2_with fail
  refine Hi.out.mono ?_
  rintro e w5 ⟨rfl, hp5⟩
  have HA5 := hid (HA4.out.pure hp5)
  have Hp5 := hid (Hq4.out.then_ hp5)
  clear hp5
  go_wp2_with fail
  refine (others_any b bm vo t2 w5 HA5.out).mono ?_
  rintro e w6 ⟨v6, rfl, hown6, hp6⟩
  rw [t_o] at hown6
  have hi6 := Row.of_own hown6
  have Hi6 := hid (same_at (hi6.pure ((Below.refl _ w6).alloc (Nat.le_refl _) _)) (ints_lit (w := w6) (l := [9]) (by decide)) true rfl)
  have HA6 := hid (HA5.out.pure (hp6.then_ ((Below.refl _ w6).alloc (Nat.le_refl _) (.cells #[.int .i64 9] 3))))
  have Hq6 := hid ((Hp5.out.then_ hp6).then_ ((Below.refl _ w6).alloc (Nat.le_refl _) (.cells #[.int .i64 9] 3)))
  obtain ⟨a6, cap6, rfl⟩ := hi6.shape
  clear hown6 hp6 hi6
  go_wp2_with fail
  refine Hi6.out.mono ?_
  rintro e w7 ⟨rfl, hp7⟩
  have HA7 := hid (HA6.out.pure hp7)
  have Hp7 := hid (Hq6.out.then_ hp7)
  clear hp7
  go_wp2_with fail
  refine (done_any b bm vo t2 w7 HA7.out).mono ?_
  rintro e w8 ⟨rfl, hp8⟩
  rw [show decide (t2.need ≤ (t2.yes.length : Int)) = true from rfl]
  have HA8 := hid (HA7.out.pure hp8)
  have Hp8 := hid (Hp7.out.then_ hp8)
  clear hp8
  go_wp2_with fail
  refine (most_any b bm vo t2 w8 HA8.out).mono ?_
  rintro e w9 ⟨rfl, hp9⟩
  rw [show decide ((t2.owners.length : Int) / 2 + 1 ≤ t2.owned) = false by decide]
  have Hp9 := hid (Hp8.out.then_ hp9)
  clear hp9
  go_wp2
  go_ret
  exact ⟨rfl, Hp9.out⟩
end Go.Proofs.Ythghccccjmbjlaa
