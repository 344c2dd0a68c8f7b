import Derived.Test.YtffafdkjgllpcaaClaimC
import Derived.Test.YtffafdkjgllpcaaClaimH
namespace Go.Proofs.Ytffafdkjgllpcaa
open Go.RowKit Go.Maps

/-! The chapter's examples. -/
def a0 : CM := ⟨1, 1, 5, [1, 2, 3], 10, 20, 4, [], 0⟩
def a1 : CM := ⟨1, 1, 5, [1, 2, 3], 10, 20, 4, [(1, true)], 0⟩
def a2 : CM := ⟨1, 1, 5, [1, 2, 3], 10, 20, 4, [(1, true), (2, false)], 0⟩
def a3 : CM := ⟨1, 1, 5, [1, 2, 3], 10, 20, 4, [(1, true), (2, false), (3, true)], 1⟩
theorem a_new : newCM 1 1 5 [1, 2, 3] 10 20 4 = a0 := rfl
theorem a_ok : newOk [1, 2, 3] 10 20 4 := by refine ⟨?_, ?_, ?_, ?_, ?_, ?_, ?_, ?_, ?_⟩ <;> decide
theorem a_1 : a0.answer 1 true = a1 := rfl
theorem a_2 : a1.answer 2 false = a2 := rfl
theorem a_3 : a2.answer 3 true = a3 := rfl
theorem c_1 : a0.counts 1 = true := rfl
theorem c_2 : a1.counts 2 = true := rfl
theorem c_3 : a2.counts 3 = true := rfl
theorem a_wf : AllWf [1, 2, 3] := by intro x hx; simp at hx; rcases hx with rfl | rfl | rfl <;> rfl
theorem a_bd : a3.Bd := by constructor <;> decide
theorem Pure.kept_then {w a c : World} (h : Pure w a) {S : Nat → Prop} (hk : Kept S a c) (hs : ∀ k, S k → w.heap.size ≤ k) : Pure w c :=
  Below.trans h (hk.below h.size (fun k hk' hS => by have := hs k hS; omega))
theorem valid_at (b bm : Nat) (vo : Value) (c : CM) (now : Int) (w : World) (h : ClaimAt w b bm vo c) (hb : c.Bd) (v : Bool) (hv : (decide (c.state = 1) && decide (now < c.start + c.term - 2 * c.skew)) = v) :
    Calls Try.prog 26 #[.pointer (some ⟨b, 0, none⟩), .int .i64 now] w fun e w' => e = .returned (.bool v) ∧ ∃ n, w' = w.drewN n := by
  rw [← hv]; exact valid_any b bm vo c now w h hb
theorem ints_lit {w : World} {l : List Int} (hl : l.length ≤ maxLen) : Ints (w.alloc (.cells (l.map (Value.int .i64)).toArray 3)) (.slice (some ⟨w.heap.size, 0, none⟩) l.length l.length) l :=
  ⟨by simp, _, _, rfl, Nat.le_refl _, hl, .inr ⟨_, _, rfl, by simp, fun i _ => by rw [Nat.zero_add, World.cell?_alloc_new]; simp⟩⟩

set_option maxHeartbeats 2000000 in
theorem awake_any (w : World) : Calls Try.prog 8 #[] w fun e w' => e = .returned (.bool true) ∧ Pure w w' := by
  have hn := hid (fun (W : World) v (hv : Ints W v [1, 2, 3]) => new_ok 1 1 5 10 20 4 v [1, 2, 3] W hv (by decide) a_wf a_ok)
  have hP : Pure w (w.alloc (.cells #[.int .i64 1, .int .i64 2, .int .i64 3] 3)) := (Below.refl _ _).alloc (Nat.le_refl _) _
  have HP := hid hP
  clear hP
  go_enter Try.func8, Try.ntmps8
  go_wp2_with fail
  refine (hn.out _ _ (ints_lit (l := [1, 2, 3]) (by decide))).mono ?_
  rintro e w1 ⟨b, bm, vo, rfl, hA, hb, hbm, hvo, hp⟩
  rw [a_new] at hA
  go_wp2_with fail
  refine (answer_any b bm vo a0 1 true w1 hA rfl (by decide) a_wf).mono ?_
  rintro e w2 ⟨rfl, hA2, hk2⟩
  rw [a_1] at hA2
  rw [c_1]
  go_wp2_with fail
  refine (answer_any b bm vo a1 2 false w2 hA2 rfl (by decide) a_wf).mono ?_
  rintro e w3 ⟨rfl, hA3, hk3⟩
  rw [a_2] at hA3
  rw [c_2]
  go_wp2_with fail
  refine (answer_any b bm vo a2 3 true w3 hA3 rfl (by decide) a_wf).mono ?_
  rintro e w4 ⟨rfl, hA4, hk4⟩
  rw [a_3] at hA4
  rw [c_3]
  have hpw : Pure w w4 := ((HP.out.then_ hp).kept_then (hk2.trans (hk3.trans hk4)) (fun k hk => by simp at hb hbm; omega))
  have hs := hid (state_yes b bm vo a3 w4 hA4)
  have hv1 := hid (valid_at b bm vo a3 21 w4 hA4 a_bd true rfl)
  have hv2 := hid (fun n => valid_at b bm vo a3 22 (w4.drewN n) (hA4.pure (pure_drewN _ _)) a_bd false rfl)
  have Hpw := hid hpw
  clear hpw hA hb hbm hvo hp hA2 hk2 hA3 hk3 hA4 hk4
  go_wp2_with fail
  refine hs.out.mono ?_
  rintro e w' ⟨rfl, rfl⟩
  go_wp2_with fail
  refine hv1.out.mono ?_
  rintro e w' ⟨rfl, n1, rfl⟩
  go_wp2_with fail
  refine (hv2.out n1).mono ?_
  rintro e w' ⟨rfl, n2, rfl⟩
  go_wp2
  go_ret
  exact ⟨rfl, Hpw.out.trans ((pure_drewN _ _).mono Hpw.out.size)⟩
end Go.Proofs.Ytffafdkjgllpcaa
