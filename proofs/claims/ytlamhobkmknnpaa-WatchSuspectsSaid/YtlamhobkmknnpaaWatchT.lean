/- law10: WatchSuspects, the walk. -/
import Derived.Test.YtlamhobkmknnpaaWatchS
namespace Go.Proofs.Ytlamhobkmknnpaa
open Go.RowKit Go.Maps Go.MapKept

set_option maxRecDepth 100000 in
set_option maxHeartbeats 8000000 in
theorem suspects_walk (patience after : Int) (w : World) : Calls Try.prog 6 #[.int .i64 patience, .int .i64 after] w fun e w' => e = .returned (.bool true) ∧ Pure w w' := by
  obtain ⟨q, hq⟩ : ∃ q, bits .and .i64 patience 63 = q := ⟨_, rfl⟩
  obtain ⟨a, ha⟩ : ∃ a, bits .and .i64 after 127 = a := ⟨_, rfl⟩
  have hqb : 0 ≤ q ∧ q ≤ 63 := by rw [← hq]; exact and63 patience
  have hab : 0 ≤ a ∧ a ≤ 127 := by rw [← ha]; exact and127 after
  obtain ⟨p, hp⟩ : ∃ p, 1 + q = p := ⟨_, rfl⟩
  have hpb : 1 ≤ p ∧ p ≤ 64 := by omega
  go_enter Try.func6, Try.ntmps6
  go_wp2_with fail
  refine (awake_any w).mono ?_
  rintro e w1 ⟨rfl, hp1⟩
  have Hp1 := hid hp1
  clear hp1
  have hnew := hid (wnew_ok 1 1000 p w1 (by omega) (by omega) (by omega) (by omega))
  obtain ⟨b, hb⟩ : ∃ b, b = w1.heap.size + 1 := ⟨_, rfl⟩
  obtain ⟨mb, hmb⟩ : ∃ mb, mb = w1.heap.size := ⟨_, rfl⟩
  rw [← hb, ← hmb] at hnew
  have Hbm := hid (And.intro hb hmb)
  have hbw : w.heap.size ≤ b ∧ w.heap.size ≤ mb := by have := Hp1.out.size; omega
  clear hb hmb
  go_wp2_with fail
  refine hnew.out.mono ?_
  rintro e w2 ⟨rfl, hW, hp2⟩
  have HW := hid hW
  have hb2 : b < w2.heap.size := lt_of_block hW.blk
  have hm2 : mb < w2.heap.size := hW.map.lt
  have Hp2 := hid (Hp1.out.then_ hp2)
  clear hW hp2 hnew
  go_wp2_with fail
  refine (three_any w2).mono ?_
  rintro e w3 ⟨rfl, hP3, hp3⟩
  have HW3 := hid (HW.out.pure hp3)
  have HP3 := hid (show Peers w3 (.slice (some ⟨w2.heap.size, 0, none⟩) 2 3) (two 0) from by
    have := row_pre hP3 (k := 2) (by simp)
    exact this)
  have Hp3 := hid (Hp2.out.then_ hp3)
  have hof := hid (show Off b mb (.slice (some ⟨w2.heap.size, 0, none⟩) 2 3) from fun k hk => by
    have : w2.heap.size = k := by simpa [Value.rb] using hk
    omega)
  clear hP3 hp3
  have ht1 := hid (tick_any b mb _ _ ⟨1, 1000, p, 0, 0, [], []⟩ (two 0) 10 0 0 w3 HW3.out ⟨by simp, by simp, by show 1 ≤ p ∧ p ≤ 1048576; omega, by simp, by simp, by simp, by simp, by simp, by simp⟩ (by omega) HP3.out hof.out (by simp [two]) (two_ok 0) (by omega))
  rw [su_first] at ht1
  go_wp2_with fail
  refine ht1.out.mono ?_
  rintro e w4 ⟨v4, vr4, rfl, hPe4, hOf4, hW4, hK4⟩
  have HK4 := hid hK4
  have HW4 := hid hW4
  have Hs4 := hid (Hp3.out.w2 hK4 hbw.1 hbw.2)
  have HP4 := hid (show Peers w4 (.slice (some ⟨w2.heap.size, 0, none⟩) 2 3) (two 0) from Row.kept HP3.out hK4 (fun k hk e => by
    have := hof.out k hk
    rcases e with e | e
    · exact this.1 e
    · exact this.2 e))
  obtain ⟨a4, c4, rfl⟩ := hPe4.shape
  clear hPe4 hOf4 hW4 hK4 ht1
  have Hab := hid hab
  go_wp2
  go_loopw [9, 13, 14, 15, 16, 17, 18, 19] (fun o i _ _ _ _ _ _ wr => ∃ (n : Nat) (vr : Value), 1 ≤ n ∧ n ≤ 131 ∧ i = .int .i64 n ∧ Peers wr o (two (suT p a n)) ∧ Off b mb o ∧ WAt wr b mb vr (suS p ((n : Int) - 1) (suB p a n)) ∧ Kept (W2 b mb) w4 wr) (fun _ i _ _ _ _ _ _ _ => 131 - (RowKit.intOf i).toNat)
  case atStart =>
    refine ⟨1, vr4, by omega, by omega, rfl, ?_, hof.out, ?_, Kept.refl _ _⟩
    · have : suT p a ((1 : Nat) : Int) = 0 := by unfold suT; rw [if_neg (by omega)]
      rw [this]; exact HP4.out
    · have : suB p a ((1 : Nat) : Int) = true := by unfold suB; simp; omega
      rw [this]; exact HW4.out
  case round =>
    obtain ⟨n, vr, hn1, hn2, rfl, hPe, hOf, hWr, hKr⟩ := hrel
    have HPe := hid hPe
    have HOf := hid hOf
    have HWr := hid hWr
    have HKr := hid hKr
    obtain ⟨ar, cr, rfl⟩ := hPe.shape
    clear hPe hOf hWr hKr
    by_cases hlt : n ≤ 130
    · have hlt' : (n : Int) ≤ 130 := by omega
      obtain ⟨wo, rfl⟩ : ∃ wo : World, wo = wr := ⟨_, rfl⟩
      go_upto_if 52 with fail
      go_cut [13] from 45 to 89 (fun i wx => i = .int .i64 (n : Int) ∧ WAt wx b mb vr (suS p ((n : Int) - 1) (if (n : Int) = a + 1 then false else suB p a n)) ∧ Kept (W2 b mb) wo wx)
      case first =>
        have hhe := hid (wheard_any b mb vr _ 2 wo HWr.out (by decide))
        have hs := su_heard p ((n : Int) - 1) (suB p a n)
        rw [hs.1, hs.2] at hhe
        clear hs
        by_cases hna : (n : Int) = a + 1
        · have hna' : ((n : Int) == a + 1) = true := by simpa using hna
          have hd : suB p a n = decide (a < p) := by unfold suB; rw [Bool.eq_iff_iff]; simp; omega
          have Hna := hid hna
          rw [hd] at hhe
          clear hd hna
          by_cases hap : a < p
          · have hd : decide (a < p) = true := by simpa using hap
            rw [hd] at hhe
            go_wp2_with (go_at_call 16; (with_reducible refine hhe.out.mono ?_); rintro e w5 ⟨rfl, hW5, hK5⟩; have HW5 := hid hW5; have HK5 := hid hK5; clear hW5 hK5)
            go_meet
            case rel => exact ⟨rfl, by rw [if_pos Hna.out]; exact HW5.out, HK5.out⟩
          · have hd : decide (a < p) = false := by simpa using hap
            rw [hd] at hhe
            go_wp2_with (go_at_call 16; (with_reducible refine hhe.out.mono ?_); rintro e w5 ⟨rfl, hW5, hK5⟩; have HW5 := hid hW5; have HK5 := hid hK5; clear hW5 hK5)
            go_meet
            case rel => exact ⟨rfl, by rw [if_pos Hna.out]; exact HW5.out, HK5.out⟩
        · have hna' : ((n : Int) == a + 1) = false := by simpa using hna
          have Hna := hid hna
          clear hna
          go_wp2
          go_meet
          case rel => exact ⟨rfl, by rw [if_neg Hna.out]; exact HWr.out, Kept.refl _ _⟩
      case rest =>
        obtain ⟨rfl, hW5, hK5⟩ := hcut
        obtain ⟨w5, rfl⟩ : ∃ w5 : World, w5 = wc := ⟨_, rfl⟩
        have HW5 := hid hW5
        have HK5 := hid (HKr.out.trans hK5)
        have HP5 := hid (show Peers w5 (.slice ar (two (suT p a n)).length cr) (two (suT p a n)) from Row.kept HPe.out hK5 (fun k hk e => by
          have := HOf.out k hk
          rcases e with e | e
          · exact this.1 e
          · exact this.2 e))
        have ht := hid (tick_any b mb vr _ _ (two (suT p a n)) 10 n 0 w5 HW5.out (su_ok p _ _ hpb (by omega)) (by omega) HP5.out HOf.out (by simp [two]) (two_ok _) (by omega))
        have hsn := su_next p a n (by omega)
        rw [su_tick p n (suT p a n) _ (by omega) (by omega) (suT_01 p a n), hsn.1, hsn.2] at ht
        clear hW5 hK5 hsn
        go_wp2_with fail
        refine ht.out.mono ?_
        rintro e w6 ⟨v6, vr6, rfl, hPe6, hOf6, hW6, hK6⟩
        have HP6 := hid hPe6
        have HOf6 := hid hOf6
        have HW6 := hid hW6
        have HK6 := hid (HK5.out.trans hK6)
        have hfi := hid (find_any v6 _ 2 w6 hPe6)
        rw [two_find] at hfi
        have hfi := hid (show Calls Try.prog 13 #[v6, .int .i64 2] w6 fun e w' => e = .returned (.tuple #[.agg #[.int .i64 2, .int .i64 0, .int .i64 (suT p a ((n : Int) + 1))], .bool true]) ∧ Pure w6 w' from hfi.out)
        obtain ⟨a6, c6, rfl⟩ := hPe6.shape
        clear hPe6 hOf6 hW6 hK6 ht
        go_wp2_with fail
        refine hfi.out.mono ?_
        rintro e w7 ⟨rfl, hp7⟩
        have HP7 := hid (Row.pure HP6.out hp7)
        have HW7 := hid (HW6.out.pure hp7)
        have HK7 := hid (HK6.out.trans hp7.kept)
        clear hp7
        have hTl : (two (suT p a ((n : Int) + 1))).length = 2 := rfl
        have HA := hid (fun (o : Obj) => (show Pure w7 (w7.alloc o) from (Below.refl _ _).alloc (Nat.le_refl _) _))
        have HT := hid (show (((n + 1 : Nat) : Int)) = (n : Int) + 1 from by omega)
        have HT2 := hid (show (n : Int) + 1 - 1 = (n : Int) from by omega)
        by_cases hL : p ≤ a ∧ p < (n : Int) + 1
        · have hs : suT p a ((n : Int) + 1) = 1 := by unfold suT; rw [if_pos hL]
          obtain ⟨l1, l2⟩ := hL
          have l2' : p ≤ (n : Int) := by omega
          have l3 : decide (p ≤ (n : Int)) = true := by simpa using l2'
          rw [hs] at HP7
          have Hs := hid hs
          rw [hs]
          clear hs l2
          go_wp2
          go_roundw
          case rel => exact ⟨n + 1, vr6, by omega, by omega, by go_num, by rw [HT.out, Hs.out]; exact Row.pure HP7.out (HA.out _), HOf6.out, by rw [HT.out, HT2.out]; exact HW7.out.pure (HA.out _), HK7.out.trans (Pure.kept (HA.out _))⟩
          case measure => simp [RowKit.intOf]; omega
        · have hs : suT p a ((n : Int) + 1) = 0 := by unfold suT; rw [if_neg hL]
          rw [hs] at HP7
          have Hs := hid hs
          rw [hs]
          clear hs
          by_cases l1 : p ≤ (n : Int)
          · have l2 : ¬ p ≤ a := by omega
            have l3 : decide (p ≤ a) = false := by simpa using l2
            clear hL
            go_wp2
            go_roundw
            case rel => exact ⟨n + 1, vr6, by omega, by omega, by go_num, by rw [HT.out, Hs.out]; exact Row.pure HP7.out (HA.out _), HOf6.out, by rw [HT.out, HT2.out]; exact HW7.out.pure (HA.out _), HK7.out.trans (Pure.kept (HA.out _))⟩
            case measure => simp [RowKit.intOf]; omega
          · have l3 : decide (p ≤ (n : Int)) = false := by simpa using l1
            clear hL
            go_wp2
            go_roundw
            case rel => exact ⟨n + 1, vr6, by omega, by omega, by go_num, by rw [HT.out, Hs.out]; exact Row.pure HP7.out (HA.out _), HOf6.out, by rw [HT.out, HT2.out]; exact HW7.out.pure (HA.out _), HK7.out.trans (Pure.kept (HA.out _))⟩
            case measure => simp [RowKit.intOf]; omega
    · have hlt' : ¬ (n : Int) ≤ 130 := by omega
      have hB : suB p a n = false := by unfold suB; simp; omega
      rw [hB] at HWr
      have hwt := hid (wwaiting_any b mb vr _ wr HWr.out (by simp [suS, suW]))
      rw [show srt ((suS p ((n : Int) - 1) false).waits.map (·.1)) = [] from srt_nil] at hwt
      have hwt := hid (show Calls Try.prog 17 #[.pointer (some ⟨b, 0, none⟩)] wr fun e w' => ∃ v', e = .returned v' ∧ w'.ownsRow wr.heap.size 3 1 v' 0 [] ∧ Pure wr w' from hwt.out)
      go_wp2_with fail
      refine hwt.out.mono ?_
      rintro e w8 ⟨v8, rfl, hown8, hp8⟩
      obtain ⟨a8, c8, rfl⟩ := own_shape_p hown8
      have Hend := hid (Hs4.out.w2 (HKr.out.trans hp8.kept) hbw.1 hbw.2)
      clear hown8 hp8
      go_wp2
      go_ret
      exact ⟨rfl, Hend.out⟩
end Go.Proofs.Ytlamhobkmknnpaa
