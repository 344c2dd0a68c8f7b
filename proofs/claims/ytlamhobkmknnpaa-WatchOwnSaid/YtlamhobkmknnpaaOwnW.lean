/- law10: WatchOwn. -/
import Derived.Test.YtlamhobkmknnpaaMade
namespace Go.Proofs.Ytlamhobkmknnpaa
open Go.RowKit Go.Maps Go.MapKept

theorem own_first {M : List Pr} (h : VOk M) : pfind (pput M ⟨4, 9, 1⟩) 4 = some ⟨4, 9, 1⟩ := by
  have h1 := h.find ⟨4, 9, 1⟩
  dsimp only at h1
  rw [h1]
  cases he : pfind M 4 with
  | none => rfl
  | some a =>
    have ha := h.all a (List.mem_of_find?_eq_some he)
    have hi : a.id = 4 := by have := List.find?_some he; simpa using this
    obtain ⟨x, y, z⟩ := a
    dsimp only at ha hi ⊢
    subst hi
    unfold later
    dsimp only
    rw [if_neg (by omega), if_neg (by omega)]
    by_cases hc : 9 < y ∨ y = 9 ∧ 1 ≤ z
    · rw [if_pos hc]
      obtain ⟨rfl, rfl⟩ : y = 9 ∧ z = 1 := by omega
      rfl
    · rw [if_neg hc]
structure OwnI (i : Nat) (S : WS) (l : List Pr) : Prop where
  ok : WOk i S
  own : S.own = 4
  no : ∀ e ∈ S.waits, e.1 ≠ 4
  pok : POk l
  len : l.length ≤ 8
  find : pfind l 4 = some (if i = 0 then ⟨4, 9, 1⟩ else ⟨4, 10, 0⟩)
theorem OwnI.next {i : Nat} {S : WS} {l : List Pr} {draw : Int} (h : OwnI i S l) (hi : i ≤ 20) :
    OwnI (i + 1) (tick S l i draw).2 (tickN S l i) ∧ pfind (tickN S l i) 4 = some ⟨4, 10, 0⟩ ∧ ((tick S l i draw).1.2.1 = true → (tick S l i draw).1.1 ≠ 4) := by
  have hf : pfind (tickN S l i) 4 = some ⟨4, 10, 0⟩ := by
    have := tickN_own (S := S) (l := l) (now := i) (by rw [h.own]; exact h.no)
    rw [h.own, h.find] at this
    rw [this]
    by_cases h0 : i = 0
    · simp [h0, ref1]
    · simp [h0, ref1]
  refine ⟨⟨tick_wok h.ok h.pok (by have := h.len; omega) (by omega), by rw [(tick_fix S l i draw).1]; exact h.own, ?_, tickN_pok h.pok, by rw [tickN_len]; exact h.len, by rw [hf]; simp⟩, hf, ?_⟩
  · intro e he
    rcases tick_waits he with h1 | ⟨h1, _⟩
    · exact h.no e h1
    · have := (others_mem h1).2; rw [h.own] at this; exact this
  · intro hok
    have := (others_mem (tick_ask hok)).2
    rw [h.own] at this; exact this
theorem VOk.pok {l : List Pr} (h : VOk l) : POk l := fun p hp => by have := h.all p hp; omega

set_option maxRecDepth 100000 in
set_option maxHeartbeats 8000000 in
theorem own_walk (v vd : Value) (L : List Pr) (D : List Int) (w : World) (hv : Peers w v L) (hd : Ints w vd D) : Calls Try.prog 3 #[v, vd] w fun e w' => e = .returned (.bool true) ∧ Pure w w' := by
  obtain ⟨ad, cd, rfl⟩ := hd.shape
  obtain ⟨av, cv, rfl⟩ := hv.shape
  have hDl : D.length ≤ maxLen := Row.len_le hd
  unfold maxLen at hDl
  have Hd := hid hd
  have Hv := hid hv
  clear hd hv
  go_enter Try.func3, Try.ntmps3
  go_wp2_with fail
  refine (awake_any w).mono ?_
  rintro e w1 ⟨rfl, hp1⟩
  have Hp1 := hid hp1
  have hmd := hid (made_any _ L w1 (Row.pure Hv.out hp1))
  clear hp1
  go_wp2_with fail
  refine hmd.out.mono ?_
  rintro e w2 ⟨v2, M, rfl, hP2, hV2, hp2⟩
  have HV2 := hid hV2
  have Hp2 := hid (Hp1.out.then_ hp2)
  have hwi := hid (with_any v2 M ⟨4, 9, 1⟩ w2 hP2 (by unfold PB; simp) (by have := hV2.len; omega) (by have := (hV2.put (p := ⟨4, 9, 1⟩) (by simp)).len; omega))
  obtain ⟨a2, c2, rfl⟩ := hP2.shape
  clear hP2 hV2 hp2 hmd
  go_wp2_with fail
  refine hwi.out.mono ?_
  rintro e w3 ⟨v3, rfl, hP3, hp3⟩
  have HV3 := hid (HV2.out.put (p := ⟨4, 9, 1⟩) (by simp))
  have HF3 := hid (own_first HV2.out)
  have Hp3 := hid (Hp2.out.then_ hp3)
  have HP3 := hid hP3
  generalize pput M ⟨4, 9, 1⟩ = l0 at *
  obtain ⟨a3, c3, rfl⟩ := hP3.shape
  clear hP3 hp3 hwi
  have hnew := hid (wnew_ok 4 1 3 w3 (by omega) (by omega) (by omega) (by omega))
  obtain ⟨b, hb⟩ : ∃ b, b = w3.heap.size + 1 := ⟨_, rfl⟩
  obtain ⟨mb, hmb⟩ : ∃ mb, mb = w3.heap.size := ⟨_, rfl⟩
  rw [← hb, ← hmb] at hnew
  have hbw : w.heap.size ≤ b ∧ w.heap.size ≤ mb := by have := Hp3.out.size; omega
  have Hoff := hid (show Off b mb (.slice a3 l0.length c3) from fun k hk => by have := Row.lt HP3.out k hk; omega)
  clear hb hmb
  go_wp2_with fail
  refine hnew.out.mono ?_
  rintro e w4 ⟨rfl, hW, hp4⟩
  have HW := hid hW
  have Hp4 := hid (Hp3.out.then_ hp4)
  have HP4 := hid (Row.pure HP3.out hp4)
  clear hW hp4 hnew
  have HDk := hid (fun W (hW : Kept (W2 b mb) w4 W) => (show Ints W (.slice ad D.length cd) D from Row.kept (Row.pure Hd.out Hp4.out) hW (fun k hk e => by
    have := Row.lt Hd.out k hk
    have := hbw
    rcases e with e | e <;> omega)))
  go_wp2
  go_loopw [6, 8, 9, 10, 11, 12, 13] (fun o i _ _ _ _ _ wr => ∃ (i' : Nat) (S : WS) (l : List Pr) (vr : Value), i' ≤ D.length ∧ i' ≤ 20 ∧ i = .int .i64 i' ∧ OwnI i' S l ∧ WAt wr b mb vr S ∧ Peers wr o l ∧ Off b mb o ∧ Kept (W2 b mb) w4 wr) (fun _ i _ _ _ _ _ _ => D.length - (RowKit.intOf i).toNat)
  case atStart =>
    refine ⟨0, _, l0, _, Nat.zero_le _, by omega, rfl, ⟨⟨?_, ?_, ?_, ?_, ?_, ?_, ?_, ?_, ?_⟩, rfl, ?_, HV3.out.pok, HV3.out.len, ?_⟩, HW.out, HP4.out, Hoff.out, Kept.refl _ _⟩
    all_goals first | (exact HF3.out) | (simp; done)
  case round =>
    obtain ⟨i, S, l, vr, hi1, hi20, rfl, hI, hW, hPe, hOf, hK⟩ := hrel
    have HI := hid hI
    have HWr := hid hW
    have HPe := hid hPe
    have HOf := hid hOf
    have HK := hid hK
    obtain ⟨al, cl, rfl⟩ := hPe.shape
    clear hI hW hPe hOf hK
    by_cases hlt : i < D.length ∧ i < 20
    · obtain ⟨l1, l2⟩ := hlt
      have l1' : (i : Int) < (D.length : Int) := by omega
      have l2' : (i : Int) < 20 := by omega
      have hi0 : (0 : Int) ≤ (i : Int) := by omega
      obtain ⟨_, _, _, hc⟩ := (HDk.out wr HK.out).cell
      obtain ⟨bd, od, rfl, hbd, hdc⟩ : ∃ bd od, ad = some ⟨bd, od, none⟩ ∧ bd < wr.heap.size ∧ wr.cell? ⟨bd, od + i, none⟩ = some (.int .i64 (D.getD i 0)) := by
        rcases hc with ⟨h0, _⟩ | ⟨bd, od, e, hb, hcc⟩
        · rw [h0] at l1; exact absurd l1 (Nat.not_lt_zero _)
        · exact ⟨bd, od, e, hb, hcc i l1⟩
      clear hc
      generalize D.getD i 0 = draw at *
      have Htick := hid (tick_any b mb vr _ S l i i draw wr HWr.out HI.out.ok (by omega) HPe.out HOf.out (by have := HI.out.len; omega) HI.out.pok (by omega))
      have hnx := HI.out.next (draw := draw) hi20
      have HIn := hid hnx.1
      have HFn := hid hnx.2.1
      have hask := hnx.2.2
      have HN := hid (tick_next S l i draw)
      clear hnx
      generalize hT : tick S l i draw = T at *
      obtain ⟨⟨ask, B, N⟩, S'⟩ := T
      have HN : Hid (N = tickN S l i) := HN
      rw [← HN.out] at HIn HFn
      dsimp only at HIn hask
      clear hT HN
      go_wp2_with fail
      refine Htick.out.mono ?_
      rintro e w5 ⟨v5, vr5, rfl, hPe5, hOf5, hW5, hK5, -⟩
      dsimp only at hPe5 hW5
      have HPe5 := hid hPe5
      have HOf5 := hid hOf5
      have HW5 := hid hW5
      have HK5 := hid (HK.out.trans hK5)
      have hfi := find_any v5 N 4 w5 hPe5
      rw [HFn.out] at hfi
      have hfi := hid (show Calls Try.prog 13 #[v5, .int .i64 4] w5 fun e w' => e = .returned (.tuple #[.agg #[.int .i64 4, .int .i64 10, .int .i64 0], .bool true]) ∧ Pure w5 w' from hfi)
      obtain ⟨a5, c5, rfl⟩ := hPe5.shape
      clear hPe5 hOf5 hW5 hK5 hdc
      dsimp only
      go_wp2_with fail
      refine hfi.out.mono ?_
      rintro e w6 ⟨rfl, hp6⟩
      have HA := hid (fun (o : Obj) => (show Pure w5 (w6.alloc o) from hp6.then_ ((Below.refl _ _).alloc (Nat.le_refl _) _)))
      clear hp6
      cases B with
      | true =>
        have hne : (ask == 4) = false := by simpa using hask rfl
        clear hask
        go_wp2
        go_roundw
        case rel => exact ⟨i + 1, S', N, vr5, by omega, by omega, by go_num, HIn.out, HW5.out.pure (HA.out _), Row.pure HPe5.out (HA.out _), HOf5.out, HK5.out.trans (Pure.kept (HA.out _))⟩
        case measure => simp [RowKit.intOf]; omega
      | false =>
        clear hask
        go_wp2
        go_roundw
        case rel => exact ⟨i + 1, S', N, vr5, by omega, by omega, by go_num, HIn.out, HW5.out.pure (HA.out _), Row.pure HPe5.out (HA.out _), HOf5.out, HK5.out.trans (Pure.kept (HA.out _))⟩
        case measure => simp [RowKit.intOf]; omega
    · have Hend := hid (Hp4.out.w2 HK.out hbw.1 hbw.2)
      by_cases l1 : i < D.length
      · have l1' : (i : Int) < (D.length : Int) := by omega
        have l2' : ¬ (i : Int) < 20 := by omega
        go_wp2
        go_ret
        exact ⟨rfl, Hend.out⟩
      · have l1' : ¬ (i : Int) < (D.length : Int) := by omega
        go_wp2
        go_ret
        exact ⟨rfl, Hend.out⟩
end Go.Proofs.Ytlamhobkmknnpaa
