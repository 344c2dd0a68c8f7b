import Derived.Test.YthghccccjmbjlaaRefC
namespace Go.Proofs.Ythghccccjmbjlaa
open Go.RowKit Go.Maps

theorem ryes_any (b : Nat) (vo vy : Value) (o y : List Int) (need x : Int) (w : World) (h : RefAt w b vo vy ⟨o, need, srt y⟩) (hl : y.length < 1000) :
    Calls Try.prog 25 #[.pointer (some ⟨b, 0, none⟩), .int .i64 x] w fun e w' => e = .returned (.bool (decide (x ∉ y))) ∧ ∃ vy', RefAt w' b vo vy' ⟨o, need, srt (if x ∈ y then y else y ++ [x])⟩ ∧ Kept (fun k => k = b) w w' ∧ (vy' = vy ∨ ∀ k, vy'.rb = some k → w.heap.size ≤ k) := by
  by_cases hm : x ∈ y
  · refine (ryes_old b vo vy o (srt y) need x w h (srt_mem.2 hm)).mono ?_
    rintro e w' ⟨rfl, rfl⟩
    refine ⟨ret_bool (by simp [hm]), vy, by rw [if_pos hm]; exact h, Kept.refl _ _, .inl rfl⟩
  · refine (ryes_new b vo vy o (srt y) need x w h (srt_sorted y) (by rw [srt_len]; exact hl) (fun hx => hm (srt_mem.1 hx))).mono ?_
    rintro e w' ⟨rfl, vy', k, h1, h2, _, h3, h4, h5⟩
    rw [ins_srt h1 h2] at h3
    exact ⟨ret_bool (by simp [hm]), vy', by rw [if_neg hm]; exact h3, h4, .inr h5⟩

theorem filter_take {l : List Int} {k : Nat} (p : Int → Bool) (h : k < l.length) : (l.take (k + 1)).filter p = if p (l.getD k 0) then (l.take k).filter p ++ [l.getD k 0] else (l.take k).filter p := by
  rw [take_succ_get l k h, List.filter_append]
  generalize l.getD k 0 = x
  cases hp : p x
  · simp [hp]
  · simp [hp]
theorem own_drewN {w : World} {base e size : Nat} {v : Value} {n : Nat} {xs : List Value} (h : w.ownsRow base e size v n xs) (q : Nat) : (w.drewN q).ownsRow base e size v n xs := h

set_option maxHeartbeats 1000000 in
theorem rmissing_of (b : Nat) (L T : List Int) (vi vt : Value) (w : World) (hk0 : ∀ W, Pure w W → W.cell? ⟨b, 0, none⟩ = some vi) (hk2 : ∀ W, Pure w W → W.cell? ⟨b, 2, none⟩ = some vt) (hL : Ints w vi L) (hT : Ints w vt T) (hlen : L.length ≤ 1000) :
    Calls Try.prog 14 #[.pointer (some ⟨b, 0, none⟩)] w fun e w' => ∃ v', e = .returned v' ∧ Ints w' v' (L.filter fun x => !decide (x ∈ T)) ∧ Pure w w' := by
  obtain ⟨ai, ci, rfl⟩ := hL.shape
  obtain ⟨at_, ct, rfl⟩ := hT.shape
  have H0 := hid hk0
  have H2 := hid hk2
  have HL := hid hL
  have HT := hid hT
  clear hk0 hk2 hL hT
  go_enter Try.func14, Try.ntmps14
  go_wp2
  go_loopw [3, 4] (fun v i wr => ∃ k : Nat, k ≤ L.length ∧ i = .int .i64 k ∧ wr.ownsRow w.heap.size 3 1 v ((L.take k).filter fun x => !decide (x ∈ T)).length (((L.take k).filter fun x => !decide (x ∈ T)).map (Value.int .i64)) ∧ Pure w wr) (fun _ i _ => L.length - (RowKit.intOf i).toNat)
  case atStart => exact ⟨0, Nat.zero_le _, rfl, World.ownsRow_nil _ _ _ _, Below.refl _ _⟩
  case round =>
    obtain ⟨k, hk, rfl, hown, hb⟩ := hrel
    have k0 := H0.out wr hb
    by_cases hlt : k < L.length
    · have k2 := H2.out wr hb
      obtain ⟨bl, off, rfl, hcx⟩ := ints_get (show Ints wr (.slice ai L.length ci) L from Row.pure HL.out hb) hlt
      have hh := hid (fun n => (has_any _ T (L.getD k 0) (wr.drewN n) (show Ints (wr.drewN n) (.slice at_ T.length ct) T from Row.pure HT.out (hb.then_ (pure_drewN _ _)))).mono (R' := fun e w' => e = .returned (.bool (decide (L.getD k 0 ∈ T))) ∧ ∃ m, w' = (wr.drewN n).drewN m) fun _ _ ⟨h1, h2⟩ => ⟨h1, 0, h2.symm⟩)
      have hft := hid (filter_take (fun x => !decide (x ∈ T)) hlt)
      have hfl : ((L.take k).filter fun x => !decide (x ∈ T)).length ≤ 1000 := Nat.le_trans (List.length_filter_le _ _) (by rw [List.length_take]; omega)
      have hlt' : (k : Int) < (L.length : Int) := by omega
      have Hown := hid hown
      have Hb := hid hb
      clear hown hb
      generalize L.getD k 0 = x at *
      obtain ⟨X, hX⟩ : ∃ X, X = (L.take k).filter fun x => !decide (x ∈ T) := ⟨_, rfl⟩
      rw [← hX] at hft hfl Hown
      obtain ⟨a3, c3, rfl⟩ := own_shape Hown.out
      clear hX
      cases hm : decide (x ∈ T) with
      | true =>
        rw [hm] at hh hft
        clear hm
        go_wp2_with fail
        go_quiet ((go_at_call 32; exact Calls.quiet_of (hh.out _)))
        go_wp2
        go_roundw
        case rel => exact ⟨k + 1, by omega, by go_num, by rw [hft.out]; exact own_drewN Hown.out _, Hb.out.then_ (pure_drewN _ _)⟩
        case measure => simp [RowKit.intOf]; omega
      | false =>
        rw [hm] at hh hft
        clear hm
        go_wp2_with fail
        go_quiet ((go_at_call 32; exact Calls.quiet_of (hh.out _)))
        have b1 : ∀ q, w.heap.size ≤ ((wr.drewN q).alloc (.cells #[.int .i64 x] 3)).heap.size := fun q => by have := Hb.out.size; simp; omega
        go_wp2_with (at_builtin; refine wpList_append_n rfl _ _ rfl w.heap.size _ X X.length rfl rfl ((own_drewN Hown.out _).alloc _) _ [x] 1 rfl rfl (ints_lit (w := wr.drewN _) (l := [x]) (show 1 ≤ maxLen by decide)) (by omega) (b1 _) ?_)
        intro v2 w2 hown2 hg2
        have Hown2 := hid (show w2.ownsRow w.heap.size 3 1 v2 (X.length + 1) ((X ++ [x]).map (Value.int .i64)) by simpa using hown2)
        have Hg2 := hid ((((Hb.out.then_ (pure_drewN wr _)).alloc (Hb.out.then_ (pure_drewN wr _)).size _).grown hg2 (by have := Hb.out.size; simp; omega) (fun k hk => (Hown.out.lt k hk).1)))
        clear hown2 hg2
        go_wp2
        go_roundw
        case rel => exact ⟨k + 1, by omega, by go_num, by rw [hft.out]; simpa using Hown2.out, Hg2.out⟩
        case measure => simp [RowKit.intOf]; omega
    · have e : L.take k = L := List.take_of_length_le (by omega)
      rw [e] at hown
      have Hown := hid hown
      have Hb := hid hb
      obtain ⟨a3, c3, rfl⟩ := own_shape hown
      clear hown hb e
      go_wp2
      go_ret
      exact ⟨_, rfl, Row.of_own Hown.out, Hb.out⟩

set_option maxHeartbeats 1000000 in
theorem rothers_of (b : Nat) (L T : List Int) (vi vt : Value) (w : World) (hk0 : ∀ W, Pure w W → W.cell? ⟨b, 2, none⟩ = some vi) (hk2 : ∀ W, Pure w W → W.cell? ⟨b, 0, none⟩ = some vt) (hL : Ints w vi L) (hT : Ints w vt T) (hlen : L.length ≤ 1000) :
    Calls Try.prog 16 #[.pointer (some ⟨b, 0, none⟩)] w fun e w' => ∃ v', e = .returned v' ∧ Ints w' v' (L.filter fun x => !decide (x ∈ T)) ∧ Pure w w' := by
  obtain ⟨ai, ci, rfl⟩ := hL.shape
  obtain ⟨at_, ct, rfl⟩ := hT.shape
  have H0 := hid hk0
  have H2 := hid hk2
  have HL := hid hL
  have HT := hid hT
  clear hk0 hk2 hL hT
  go_enter Try.func16, Try.ntmps16
  go_wp2
  go_loopw [3, 4] (fun v i wr => ∃ k : Nat, k ≤ L.length ∧ i = .int .i64 k ∧ wr.ownsRow w.heap.size 3 1 v ((L.take k).filter fun x => !decide (x ∈ T)).length (((L.take k).filter fun x => !decide (x ∈ T)).map (Value.int .i64)) ∧ Pure w wr) (fun _ i _ => L.length - (RowKit.intOf i).toNat)
  case atStart => exact ⟨0, Nat.zero_le _, rfl, World.ownsRow_nil _ _ _ _, Below.refl _ _⟩
  case round =>
    obtain ⟨k, hk, rfl, hown, hb⟩ := hrel
    have k0 := H0.out wr hb
    by_cases hlt : k < L.length
    · have k2 := H2.out wr hb
      obtain ⟨bl, off, rfl, hcx⟩ := ints_get (show Ints wr (.slice ai L.length ci) L from Row.pure HL.out hb) hlt
      have hh := hid (fun n => (has_any _ T (L.getD k 0) (wr.drewN n) (show Ints (wr.drewN n) (.slice at_ T.length ct) T from Row.pure HT.out (hb.then_ (pure_drewN _ _)))).mono (R' := fun e w' => e = .returned (.bool (decide (L.getD k 0 ∈ T))) ∧ ∃ m, w' = (wr.drewN n).drewN m) fun _ _ ⟨h1, h2⟩ => ⟨h1, 0, h2.symm⟩)
      have hft := hid (filter_take (fun x => !decide (x ∈ T)) hlt)
      have hfl : ((L.take k).filter fun x => !decide (x ∈ T)).length ≤ 1000 := Nat.le_trans (List.length_filter_le _ _) (by rw [List.length_take]; omega)
      have hlt' : (k : Int) < (L.length : Int) := by omega
      have Hown := hid hown
      have Hb := hid hb
      clear hown hb
      generalize L.getD k 0 = x at *
      obtain ⟨X, hX⟩ : ∃ X, X = (L.take k).filter fun x => !decide (x ∈ T) := ⟨_, rfl⟩
      rw [← hX] at hft hfl Hown
      obtain ⟨a3, c3, rfl⟩ := own_shape Hown.out
      clear hX
      cases hm : decide (x ∈ T) with
      | true =>
        rw [hm] at hh hft
        clear hm
        go_wp2_with fail
        go_quiet ((go_at_call 32; exact Calls.quiet_of (hh.out _)))
        go_wp2
        go_roundw
        case rel => exact ⟨k + 1, by omega, by go_num, by rw [hft.out]; exact own_drewN Hown.out _, Hb.out.then_ (pure_drewN _ _)⟩
        case measure => simp [RowKit.intOf]; omega
      | false =>
        rw [hm] at hh hft
        clear hm
        go_wp2_with fail
        go_quiet ((go_at_call 32; exact Calls.quiet_of (hh.out _)))
        have b1 : ∀ q, w.heap.size ≤ ((wr.drewN q).alloc (.cells #[.int .i64 x] 3)).heap.size := fun q => by have := Hb.out.size; simp; omega
        go_wp2_with (at_builtin; refine wpList_append_n rfl _ _ rfl w.heap.size _ X X.length rfl rfl ((own_drewN Hown.out _).alloc _) _ [x] 1 rfl rfl (ints_lit (w := wr.drewN _) (l := [x]) (show 1 ≤ maxLen by decide)) (by omega) (b1 _) ?_)
        intro v2 w2 hown2 hg2
        have Hown2 := hid (show w2.ownsRow w.heap.size 3 1 v2 (X.length + 1) ((X ++ [x]).map (Value.int .i64)) by simpa using hown2)
        have Hg2 := hid ((((Hb.out.then_ (pure_drewN wr _)).alloc (Hb.out.then_ (pure_drewN wr _)).size _).grown hg2 (by have := Hb.out.size; simp; omega) (fun k hk => (Hown.out.lt k hk).1)))
        clear hown2 hg2
        go_wp2
        go_roundw
        case rel => exact ⟨k + 1, by omega, by go_num, by rw [hft.out]; simpa using Hown2.out, Hg2.out⟩
        case measure => simp [RowKit.intOf]; omega
    · have e : L.take k = L := List.take_of_length_le (by omega)
      rw [e] at hown
      have Hown := hid hown
      have Hb := hid hb
      obtain ⟨a3, c3, rfl⟩ := own_shape hown
      clear hown hb e
      go_wp2
      go_ret
      exact ⟨_, rfl, Row.of_own Hown.out, Hb.out⟩

theorem rmissing_any (b : Nat) (vo vy : Value) (r : RM) (w : World) (h : RefAt w b vo vy r) :
    Calls Try.prog 14 #[.pointer (some ⟨b, 0, none⟩)] w fun e w' => ∃ v', e = .returned v' ∧ Ints w' v' (r.owners.filter fun x => !decide (x ∈ r.yes)) ∧ Pure w w' :=
  rmissing_of b r.owners r.yes vo vy w (fun _ hW => cell_of_block (h.pure hW).blk 0) (fun _ hW => cell_of_block (h.pure hW).blk 2) h.own h.yes h.olen
theorem rothers_any (b : Nat) (vo vy : Value) (r : RM) (w : World) (h : RefAt w b vo vy r) :
    Calls Try.prog 16 #[.pointer (some ⟨b, 0, none⟩)] w fun e w' => ∃ v', e = .returned v' ∧ Ints w' v' (r.yes.filter fun x => !decide (x ∈ r.owners)) ∧ Pure w w' :=
  rothers_of b r.yes r.owners vy vo w (fun _ hW => cell_of_block (h.pure hW).blk 2) (fun _ hW => cell_of_block (h.pure hW).blk 0) h.yes h.own h.ylen
end Go.Proofs.Ythghccccjmbjlaa
