/- The digits of a number, from either end. -/
import Derived.Test.YtcjggofcmjpfnaaGreatBagB
import Derived.Lib.BitFns
namespace Go.Proofs.YtcjggofcmjpfnaaGreat
open Go.RowKit Go.Maps

/-- How many digits. -/
def nd (n : Nat) : Nat := max ((Lib.bitLen n + 6) / 7) 1
def dg (n k : Nat) : Nat := 128 + n / 128 ^ k % 128
def hi (n : Nat) : Nat → List UInt8
  | 0 => []
  | j + 1 => UInt8.ofNat (dg n (j + 1)) :: hi n j
theorem nd_small {n : Nat} (h : n < 128) : nd n = 1 := by
  have := Lib.bitLen_le n 7 (by decide) (by omega)
  unfold nd; omega
theorem bitLen_pos {n : Nat} (h : n ≠ 0) (h2 : n < 18446744073709551616) : 1 ≤ Lib.bitLen n := by
  rw [Lib.bitLen_half n h (by omega)]; omega
theorem nd_big {n : Nat} (h : ¬ n < 128) (h2 : n < 18446744073709551616) : nd n = nd (n / 128) + 1 := by
  have e := Lib.bitLen_shift 7 n (by omega) (by omega)
  have e2 : (2 : Nat) ^ 7 = 128 := rfl
  rw [e2] at e
  have := bitLen_pos (n := n / 128) (by omega) (by omega)
  unfold nd; omega
theorem dg_div (n k : Nat) : dg (n / 128) k = dg n (k + 1) := by
  unfold dg
  rw [Nat.div_div_eq_div_mul, Nat.pow_succ, Nat.mul_comm]
theorem hi_snoc (n : Nat) : ∀ j, hi n (j + 1) = hi (n / 128) j ++ [UInt8.ofNat (dg n 1)]
  | 0 => rfl
  | j + 1 => by
    have ih := hi_snoc n j
    show UInt8.ofNat (dg n (j + 1 + 1)) :: hi n (j + 1) = (UInt8.ofNat (dg (n / 128) (j + 1)) :: hi (n / 128) j) ++ [UInt8.ofNat (dg n 1)]
    rw [ih, dg_div]; rfl
theorem numAcc_hi (n : Nat) (h2 : n < 18446744073709551616) (acc : List UInt8) : numAcc n acc = hi n (nd n - 1) ++ acc := by
  induction n using Nat.strongRecOn generalizing acc with
  | ind n ih =>
    by_cases h : n < 128
    · rw [numAcc_small h, nd_small h]; rfl
    · rw [numAcc_big h, ih (n / 128) (by omega) (by omega), nd_big h h2]
      have e : nd (n / 128) + 1 - 1 = nd (n / 128) - 1 + 1 := by have : 1 ≤ nd (n / 128) := Nat.le_max_right _ _; omega
      rw [e, hi_snoc, List.append_assoc]
      have e2 : dg n 1 = 128 + n / 128 % 128 := by unfold dg; simp
      rw [e2]; rfl
theorem hi_len (n : Nat) : ∀ j, (hi n j).length = j
  | 0 => rfl
  | j + 1 => by simp [hi, hi_len n j]
theorem hi_get (n : Nat) : ∀ i j, j < i → (hi n i)[j]? = some (UInt8.ofNat (dg n (i - j)))
  | 0, j, h => by omega
  | i + 1, 0, _ => rfl
  | i + 1, j + 1, h => by
    have := hi_get n i j (by omega)
    show (hi n i)[j]? = _
    rw [this, Nat.add_sub_add_right]
theorem nd_pos (n : Nat) : 1 ≤ nd n := Nat.le_max_right _ _
theorem nd_le (n : Nat) (h2 : n < 18446744073709551616) : nd n ≤ 10 := by
  have := Lib.bitLen_le n 64 (by decide) (by omega)
  unfold nd; omega
theorem num_nd (n : Nat) (h2 : n < 18446744073709551616) : (num n).length = nd n := by
  have := nd_pos n
  unfold num; rw [numAcc_hi n h2, List.length_append, hi_len]; simp; omega
/-- What stands at place j of a number's bytes. -/
def ndig (n j : Nat) : Nat := if j = nd n - 1 then n % 128 else dg n (nd n - 1 - j)
theorem num_get (n : Nat) (h2 : n < 18446744073709551616) (j : Nat) (hj : j < nd n) : (num n)[j]? = some (UInt8.ofNat (ndig n j)) := by
  unfold num ndig
  rw [numAcc_hi n h2]
  split
  · rename_i h
    rw [List.getElem?_append_right (by rw [hi_len]; omega), hi_len, h]; simp
  · rename_i h
    rw [List.getElem?_append_left (by rw [hi_len]; omega)]
    exact hi_get n _ j (by omega)
theorem ndig_lt (n j : Nat) : ndig n j < 256 := by
  unfold ndig dg; split <;> omega
theorem dg_lt (n j : Nat) : 128 ≤ dg n j ∧ dg n j < 256 := by unfold dg; omega
theorem num_get' (n : Nat) (h2 : n < 18446744073709551616) (j : Nat) (hj : j < (num n).length) : (((num n)[j]).toNat : Int) = (ndig n j : Int) := by
  have h := num_get n h2 j (by rw [← num_nd n h2]; exact hj)
  rw [List.getElem?_eq_getElem hj] at h
  have := Option.some.inj h
  rw [this, UInt8.toNat_ofNat', Nat.mod_eq_of_lt (ndig_lt n j)]
end Go.Proofs.YtcjggofcmjpfnaaGreat
