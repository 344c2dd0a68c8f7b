/- law10: WatchSuspects. -/
import Derived.Test.YtlamhobkmknnpaaWatchN
namespace Go.Proofs.Ytlamhobkmknnpaa
open Go.RowKit Go.Maps Go.MapKept

theorem and63 (n : Int) : 0 ≤ bits .and .i64 n 63 ∧ bits .and .i64 n 63 ≤ 63 := by
  show 0 ≤ IntKind.i64.wrap ((BitVec.ofInt 64 n &&& BitVec.ofInt 64 63).toNat : Int) ∧ IntKind.i64.wrap ((BitVec.ofInt 64 n &&& BitVec.ofInt 64 63).toNat : Int) ≤ 63
  have hx : (BitVec.ofInt 64 n &&& BitVec.ofInt 64 63).toNat ≤ 63 := by
    rw [BitVec.toNat_and]
    exact Nat.le_trans Nat.and_le_right (by decide)
  rw [IntWalk.i64_in _ (by omega)]
  omega
theorem and127 (n : Int) : 0 ≤ bits .and .i64 n 127 ∧ bits .and .i64 n 127 ≤ 127 := by
  show 0 ≤ IntKind.i64.wrap ((BitVec.ofInt 64 n &&& BitVec.ofInt 64 127).toNat : Int) ∧ IntKind.i64.wrap ((BitVec.ofInt 64 n &&& BitVec.ofInt 64 127).toNat : Int) ≤ 127
  have hx : (BitVec.ofInt 64 n &&& BitVec.ofInt 64 127).toNat ≤ 127 := by
    rw [BitVec.toNat_and]
    exact Nat.le_trans Nat.and_le_right (by decide)
  rw [IntWalk.i64_in _ (by omega)]
  omega

/-- Two nodes; the other one's state. -/
def two (s : Int) : List Pr := [⟨1, 0, 0⟩, ⟨2, 0, s⟩]
def suW (W : Bool) : List (Int × Int) := if W then [(2, 0)] else []
def suS (p c : Int) (W : Bool) : WS := ⟨1, 1000, p, c, 1000, suW W, []⟩
/-- Ahead of the tick n: is it waited for; what is it. -/
def suB (p a n : Int) : Bool := decide (n ≤ p) && decide (n ≤ a + 1)
def suT (p a n : Int) : Int := if p ≤ a ∧ p < n then 1 else 0
theorem su_first (p : Int) : tick ⟨1, 1000, p, 0, 0, [], []⟩ (two 0) 0 0 = ((2, true, two 0), suS p 0 true) := by
  simp [tick, tickR, tickN, tickL, tick2, tick1, tickW, lateL, srt_nil, two, againL, others, mem, rot, chg, ref1, mlook, mput, suS, suW]
theorem su_tick (p n s : Int) (W : Bool) (h1 : 1 ≤ n) (h2 : n ≤ 130) (hs : s = 0 ∨ s = 1) : tick (suS p (n - 1) W) (two s) n 0 = ((0, false, two (if W = true ∧ p ≤ n then 1 else s)), suS p n (W && decide (n < p))) := by
  have hm : max (n - 1) n = n := by omega
  have hd : n < 1000 := by omega
  cases W with
  | false => simp [tick, tickN, tickL, tick1, lateL, srt_nil, two, chg, ref1, suS, suW, hm, hd]
  | true =>
    by_cases hp : n < p
    · have hp' : ¬ p ≤ n := by omega
      simp [tick, tickN, tickL, tick1, lateL, lateS, wl, srt_one, two, chg, ref1, suS, suW, hm, hd, mlook, hp, hp']
    · have hp' : p ≤ n := by omega
      rcases hs with rfl | rfl <;> simp [tick, tickN, tickL, tick1, lateL, lateS, wl, srt_one, two, chg, ref1, sus1, suS, suW, hm, hd, mlook, mdel, hp, hp']
theorem su_heard (p c : Int) (W : Bool) : (suS p c W).heard 2 = suS p c false ∧ (mlook (suS p c W).waits 2).isSome = W := by
  cases W <;> simp [WS.heard, suS, suW, mdel, mlook]
theorem su_next (p a n : Int) (h1 : 1 ≤ n) : ((if n = a + 1 then false else suB p a n) && decide (n < p)) = suB p a (n + 1) ∧ (if (if n = a + 1 then false else suB p a n) = true ∧ p ≤ n then 1 else suT p a n) = suT p a (n + 1) := by
  unfold suB suT
  by_cases ha : n = a + 1
  · subst ha
    constructor
    · simp; omega
    · by_cases h : p ≤ a ∧ p < a + 1
      · have h2 : p ≤ a ∧ p < a + 1 + 1 := by omega
        simp [h, h2]
      · have h2 : ¬ (p ≤ a ∧ p < a + 1 + 1) := by omega
        simp [h, h2]
  · rw [if_neg ha]
    constructor
    · rw [Bool.eq_iff_iff]; simp; omega
    · by_cases h1 : n ≤ p ∧ n ≤ a + 1 ∧ p ≤ n
      · have h2 : p ≤ a ∧ p < n + 1 := by omega
        simp [h1, h2]
      · by_cases h2 : p ≤ a ∧ p < n
        · have h3 : p ≤ a ∧ p < n + 1 := by omega
          simp [h2, h3]
        · have h3 : ¬ (p ≤ a ∧ p < n + 1) := by omega
          have h4 : ¬ ((n ≤ p ∧ n ≤ a + 1) ∧ p ≤ n) := by omega
          simp [h2, h3, h4]
theorem su_ok (p c : Int) (W : Bool) (hp : 1 ≤ p ∧ p ≤ 64) (hc : 0 ≤ c ∧ c ≤ 1000) : WOk 10 (suS p c W) := by
  refine ⟨by simp [suS], by simp [suS], by simp [suS]; omega, by simp [suS]; omega, ?_, ?_, ?_, by simp [suS], by simp [suS]⟩
  · cases W <;> simp [suS, suW]
  · cases W <;> simp [suS, suW]
  · cases W <;> simp [suS, suW]
theorem two_ok (s : Int) : POk (two s) := by intro p hp; simp [two] at hp; rcases hp with rfl | rfl <;> simp
theorem suT_01 (p a n : Int) : suT p a n = 0 ∨ suT p a n = 1 := by unfold suT; split <;> simp
theorem two_find (s : Int) : pfind (two s) 2 = some ⟨2, 0, s⟩ := by simp [pfind, two]
end Go.Proofs.Ytlamhobkmknnpaa
