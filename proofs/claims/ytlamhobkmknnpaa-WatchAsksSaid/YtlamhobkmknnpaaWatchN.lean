/- law10: awake; WatchNil. -/
import Derived.Test.YtlamhobkmknnpaaWatchG
namespace Go.Proofs.Ytlamhobkmknnpaa
open Go.RowKit Go.Maps Go.MapKept Go.Sort Go.Shelf

theorem sorted_nil (w : World) :
    Calls Try.prog 29 #[.func (.func 44) #[] #[.pointer (some ⟨w.heap.size, 0, none⟩)]] (w.alloc (.cells #[.map none] 45)) fun e w' => ∃ v, e = .returned v ∧ w'.ownsRow w.heap.size 3 1 v 0 [] ∧ Pure w w' := by
  have hseq : SeqGives Fence.wide 2 Try.prog 44 #[.pointer (some ⟨w.heap.size, 0, none⟩)] encZ (fun ss : List Int => ss = []) 0 (w.alloc (.cells #[.map none] 45)) :=
    AnyZI.keys_gives_nil (ρ := Try.keysI_ren) { Try.keysI with } Fence.wide _ trivial rfl w.heap.size _ (by simp) (by rw [World.cell?_alloc_new]; rfl)
  have cS := AnyZI.sorted_in Try.sortedI Fence.wide 5 trivial trivial trivial trivial rfl (by omega) (sortsI _) (enters_of Try.func43 (by kernel_rfl) rfl) 44 #[.pointer (some ⟨w.heap.size, 0, none⟩)] trivial (enters_of Try.func44 (by kernel_rfl) rfl) _ _ (by unfold maxLen; omega) (by omega) _ hseq
  refine (callsIn_wide.1 cS).mono ?_
  rintro e w' ⟨v, ss, rfl, hS, hrow, _, hb⟩
  subst hS
  refine ⟨v, rfl, ?_, ((Below.refl _ w).alloc (Nat.le_refl _) _).trans (hb.mono (by simp))⟩
  rw [show ([] : List Int).mergeSort (fun x y => decide (x ≤ y)) = [] by simp] at hrow
  exact own_mono (show w'.ownsRow (w.alloc (.cells #[.map none] 45)).heap.size 3 1 v 0 [] from hrow) (by simp)
set_option maxHeartbeats 1000000 in
theorem wwaiting_zero (b : Nat) (w : World) (h : ZAt w b) : Calls Try.prog 17 #[.pointer (some ⟨b, 0, none⟩)] w fun e w' => (∃ a c, e = .returned (.slice a 0 c)) ∧ Pure w w' := by
  have k0 : w.cell? ⟨b, 5, none⟩ = some (.map none) := cell_of_block h 5
  have hk := hid (keys_call none w)
  have Hs := hid (sorted_nil w)
  clear h
  go_enter Try.func17, Try.ntmps17
  go_wp2_with fail
  refine hk.out.mono ?_
  rintro e w1 ⟨rfl, rfl⟩
  go_wp2_with fail
  refine Hs.out.mono ?_
  rintro e w2 ⟨v2, rfl, hown2, hp2⟩
  obtain ⟨a2, cap2, rfl⟩ := (Row.of_own hown2).shape
  go_wp2
  go_ret
  exact ⟨⟨_, _, rfl⟩, hp2⟩
theorem wtick_nil (v : Value) (now draw : Int) (w : World) (hv : ∃ a n c, v = .slice a n c) : Calls Try.prog 12 #[.pointer none, v, .int .i64 now, .int .i64 draw] w fun e w' => e = .returned (.tuple #[.int .i64 0, .bool false, v]) ∧ w = w' := by
  obtain ⟨a, n, c, rfl⟩ := hv
  go_enter Try.func12, Try.ntmps12
  go_wp2_with (go_at_call 25; (with_reducible refine (wmade_nil _).mono ?_); rintro e w' ⟨rfl, rfl⟩)
  exact bodyPost_ret (v := .tuple #[.int .i64 0, .bool false, .slice a n c]) (by simp [results, Try.results12, go_sem]) rfl ⟨rfl, rfl⟩
theorem wtick_zero (b : Nat) (v : Value) (now draw : Int) (w : World) (h : ZAt w b) (hv : ∃ a n c, v = .slice a n c) : Calls Try.prog 12 #[.pointer (some ⟨b, 0, none⟩), v, .int .i64 now, .int .i64 draw] w fun e w' => e = .returned (.tuple #[.int .i64 0, .bool false, v]) ∧ w = w' := by
  obtain ⟨a, n, c, rfl⟩ := hv
  have hm := hid (wmade_zero b w h)
  clear h
  go_enter Try.func12, Try.ntmps12
  go_wp2_with (go_at_call 25; (with_reducible refine hm.out.mono ?_); rintro e w' ⟨rfl, rfl⟩)
  exact bodyPost_ret (v := .tuple #[.int .i64 0, .bool false, .slice a n c]) (by simp [results, Try.results12, go_sem]) rfl ⟨rfl, rfl⟩

theorem srt_nil : srt [] = [] := by simp [srt]
theorem srt_one (x : Int) : srt [x] = [x] := by simp [srt]
def three : List Pr := [⟨1, 0, 0⟩, ⟨2, 0, 0⟩, ⟨3, 0, 0⟩]
/-- What a watch of the call's own leaves. -/
theorem Pure.w2 {w a c : World} {b mb : Nat} (h : Pure w a) (k : Kept (W2 b mb) a c) (hb : w.heap.size ≤ b) (hm : w.heap.size ≤ mb) : Pure w c :=
  ⟨k.os.trans h.os, k.tape.trans h.tape, k.output.trans h.output, Nat.le_trans h.size k.size, fun i hi => (k.block i (Nat.lt_of_lt_of_le hi h.size) (fun e => by rcases e with e | e <;> omega)).trans (h.block i hi)⟩
theorem mx03 : max (0 : Int) 3 = 3 := by decide
theorem mx10 : max (1 : Int) 0 = 1 := by decide
theorem aw_t1 : tick ⟨1, 5, 3, 0, 0, [], []⟩ three 0 1 = ((3, true, three), ⟨1, 5, 3, 0, 5, [(3, 0)], [2]⟩) := by
  simp [tick, tickR, tickN, tickL, tick2, tick1, tickW, lateL, srt_nil, three, againL, others, mem, rot, chg, ref1, mlook, mput, mx10]
theorem aw_t2 : tick ⟨1, 5, 3, 0, 5, [(3, 0)], [2]⟩ three 3 0 = ((0, false, [⟨1, 0, 0⟩, ⟨2, 0, 0⟩, ⟨3, 0, 1⟩]), ⟨1, 5, 3, 3, 5, [], [2]⟩) := by
  simp [tick, tickN, tickL, tick1, lateL, lateS, wl, srt_one, three, chg, ref1, sus1, mlook, mdel, mx03]
theorem aw_o1 : WOk 10 ⟨1, 5, 3, 0, 0, [], []⟩ := ⟨by simp, by simp, by simp, by simp, by simp, by simp, by simp, by simp, by simp⟩
theorem aw_o2 : WOk 10 ⟨1, 5, 3, 0, 5, [(3, 0)], [2]⟩ := ⟨by simp, by simp, by simp, by simp, by simp, by simp, by simp, by simp, by simp⟩
theorem three_ok : POk three := by intro p hp; simp [three] at hp; rcases hp with rfl | rfl | rfl <;> decide
set_option maxHeartbeats 1000000 in
theorem awake_any (w : World) : Calls Try.prog 8 #[] w fun e w' => e = .returned (.bool true) ∧ Pure w w' := by
  have hnew := hid (wnew_ok 1 5 3 w (by omega) (by omega) (by omega) (by omega))
  have ht1 := hid (fun W vr v (h : WAt W (w.heap.size + 1) w.heap.size vr ⟨1, 5, 3, 0, 0, [], []⟩) (hv : Peers W v three) (ho : Off (w.heap.size + 1) w.heap.size v) => tick_any (w.heap.size + 1) w.heap.size vr v ⟨1, 5, 3, 0, 0, [], []⟩ three 10 0 1 W h aw_o1 (by omega) hv ho (by decide) three_ok (by omega))
  have ht2 := hid (fun W vr v (h : WAt W (w.heap.size + 1) w.heap.size vr ⟨1, 5, 3, 0, 5, [(3, 0)], [2]⟩) (hv : Peers W v three) (ho : Off (w.heap.size + 1) w.heap.size v) => tick_any (w.heap.size + 1) w.heap.size vr v ⟨1, 5, 3, 0, 5, [(3, 0)], [2]⟩ three 10 3 0 W h aw_o2 (by omega) hv ho (by decide) three_ok (by omega))
  rw [aw_t1] at ht1
  rw [aw_t2] at ht2
  go_enter Try.func8, Try.ntmps8
  go_wp2_with fail
  refine hnew.out.mono ?_
  rintro e w1 ⟨rfl, hW, hp⟩
  have HW := hid hW
  have Hp := hid hp
  have hs1 : w.heap.size + 1 < w1.heap.size := lt_of_block hW.blk
  clear hW hp
  go_wp2_with fail
  refine (three_any w1).mono ?_
  rintro e w2 ⟨rfl, hP2, hp2⟩
  have HW2 := hid (HW.out.pure hp2)
  have HP2 := hid hP2
  have Hp2 := hid (Hp.out.then_ hp2)
  have hof2 : Hid (Off (w.heap.size + 1) w.heap.size (.slice (some ⟨w1.heap.size, 0, none⟩) 3 3)) := hid (fun k hk => by
    have : w1.heap.size = k := by simpa [Value.rb] using hk
    omega)
  clear hP2 hp2
  go_wp2_with fail
  refine (ht1.out _ _ _ HW2.out HP2.out hof2.out).mono ?_
  rintro e w3 ⟨vn, vr, rfl, hPe, hOf, hW3, hK3, -⟩
  have HW3 := hid hW3
  have HK3 := hid hK3
  have HPe := hid hPe
  have HOf := hid hOf
  obtain ⟨a3, c3, rfl⟩ := hPe.shape
  clear hPe hOf hW3 hK3
  go_wp2_with fail
  refine (ht2.out _ _ _ HW3.out HPe.out HOf.out).mono ?_
  rintro e w4 ⟨vn, vr2, rfl, hPe4, hOf4, hW4, hK4, -⟩
  have HK4 := hid (HK3.out.trans hK4)
  have hPe4 : Peers w4 vn [⟨1, 0, 0⟩, ⟨2, 0, 0⟩, ⟨3, 0, 1⟩] := hPe4
  obtain ⟨a4, c4, rfl⟩ := hPe4.shape
  obtain ⟨b4, o4, rfl, hb4, d0, d1, d2⟩ := hPe4.get (k := 2) (by simp)
  simp only [List.getD, List.getElem?_cons_succ, List.getElem?_cons_zero, Option.getD_some] at d2
  have Hend := hid (Hp2.out.w2 HK4.out (by omega) (by omega))
  clear hPe4 hOf4 hW4 hK4 d0 d1
  go_wp2
  go_ret
  exact ⟨rfl, Hend.out⟩

set_option maxRecDepth 8000 in
set_option maxHeartbeats 4000000 in
theorem nil_walk (now : Int) (w : World) : Calls Try.prog 7 #[.int .i64 now] w fun e w' => e = .returned (.bool true) ∧ Pure w w' := by
  obtain ⟨w1, hw1⟩ : ∃ w1, w1 = w.alloc (.cells #[.int .i64 0, .int .i64 0, .int .i64 0, .int .i64 0, .int .i64 0, .map none, .slice none 0 0] 47) := ⟨_, rfl⟩
  have Hp1 := hid (show Pure w w1 from by rw [hw1]; exact (Below.refl _ _).alloc (Nat.le_refl _) _)
  have HZ := hid (show ZAt w1 w.heap.size from by rw [hw1]; exact block_alloc_new _ _)
  have HZp := hid (fun W (hW : Pure w1 W) => (show ZAt W w.heap.size from (hW.block _ (lt_of_block HZ.out)).trans HZ.out))
  have Hw1 := hid hw1
  clear hw1
  have haw := hid (fun W => awake_any W)
  go_enter Try.func7, Try.ntmps7
  go_wp2_with fail
  rw [← Hw1.out]
  refine (three_any w1).mono ?_
  rintro e w2 ⟨rfl, hP2, hp2⟩
  have HP2 := hid hP2
  have Hp2 := hid hp2
  clear hP2 hp2
  go_wp2_with fail
  refine (wtick_nil _ now 0 w2 ⟨_, _, _, rfl⟩).mono ?_
  rintro e w2' ⟨rfl, rfl⟩
  go_wp2_with fail
  refine (three_any w2).mono ?_
  rintro e w3 ⟨rfl, hP3, hp3⟩
  have HP3 := hid hP3
  have Hp3 := hid hp3
  have HP23 := hid (Row.pure HP2.out hp3)
  have Hp13 := hid (Hp2.out.then_ hp3)
  clear hP3 hp3
  go_wp2_with fail
  refine (wtick_zero w.heap.size _ now 0 w3 (HZp.out _ Hp13.out) ⟨_, _, _, rfl⟩).mono ?_
  rintro e w3' ⟨rfl, rfl⟩
  go_wp2_with fail
  refine (three_any w3).mono ?_
  rintro e w4 ⟨rfl, hP4, hp4⟩
  have hsm := hid (samep_eq _ _ three w4 (show Peers w4 _ three from Row.pure HP23.out hp4) hP4)
  have Hp14 := hid (Hp13.out.then_ hp4)
  have HP34 := hid (Row.pure HP3.out hp4)
  clear hP4 hp4
  go_wp2_with fail
  refine hsm.out.mono ?_
  rintro e w5 ⟨rfl, hp5⟩
  have Hp15 := hid (Hp14.out.then_ hp5)
  have HP35 := hid (Row.pure HP34.out hp5)
  clear hp5
  go_wp2_with fail
  refine (three_any w5).mono ?_
  rintro e w6 ⟨rfl, hP6, hp6⟩
  have hsm2 := hid (samep_eq _ _ three w6 (show Peers w6 _ three from Row.pure HP35.out hp6) hP6)
  have Hp16 := hid (Hp15.out.then_ hp6)
  clear hP6 hp6
  go_wp2_with fail
  refine hsm2.out.mono ?_
  rintro e w7 ⟨rfl, hp7⟩
  have Hp17 := hid (Hp16.out.then_ hp7)
  clear hp7
  go_wp2_with fail
  refine (haw.out w7).mono ?_
  rintro e w8 ⟨rfl, hp8⟩
  have Hp18 := hid (Hp17.out.then_ hp8)
  clear hp8
  go_wp2_with fail
  refine (wheard_nil 1 w8).mono ?_
  rintro e w8' ⟨rfl, rfl⟩
  go_wp2_with fail
  refine (wheard_zero w.heap.size 1 w8 (HZp.out _ Hp18.out)).mono ?_
  rintro e w8' ⟨rfl, rfl⟩
  go_wp2_with fail
  refine (wwaiting_nil w8).mono ?_
  rintro e w8' ⟨rfl, rfl⟩
  go_wp2_with fail
  refine (wround_nil w8).mono ?_
  rintro e w8' ⟨rfl, rfl⟩
  go_wp2_with fail
  refine (wclock_nil w8).mono ?_
  rintro e w8' ⟨rfl, rfl⟩
  go_wp2_with fail
  refine (wwaiting_zero w.heap.size w8 (HZp.out _ Hp18.out)).mono ?_
  rintro e w9 ⟨⟨a9, c9, rfl⟩, hp9⟩
  have Hp19 := hid (Hp18.out.then_ hp9)
  clear hp9
  go_wp2_with fail
  refine (wround_zero w.heap.size w9 (HZp.out _ Hp19.out)).mono ?_
  rintro e w10 ⟨⟨a10, c10, rfl⟩, hp10⟩
  have Hp110 := hid (Hp1.out.then_ (Hp19.out.then_ hp10))
  clear hp10
  go_wp2_with fail
  refine (wnew_no1 w10).mono ?_
  rintro e w8' ⟨rfl, rfl⟩
  go_wp2_with fail
  refine (wnew_no2 w10).mono ?_
  rintro e w8' ⟨rfl, rfl⟩
  go_wp2
  go_ret
  exact ⟨rfl, Hp110.out⟩
end Go.Proofs.Ytlamhobkmknnpaa
