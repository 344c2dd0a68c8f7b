/- ref01's Num, Int, Text. -/
import Derived.Test.YtdlpnhfgjficgaaGreatCells
import Derived.Laws.IdiomStrings
import Derived.Laws.Concat
namespace Go.Proofs.YtdlpnhfgjficgaaGreat
open Go.RowKit Go.Maps

/-- Bytes as a string. -/
def bs (l : List UInt8) : ByteArray := ⟨l.toArray⟩
theorem bs_size (l : List UInt8) : (bs l).size = l.length := by simp [bs, ByteArray.size]
theorem bs_append (l k : List UInt8) : bs l ++ bs k = bs (l ++ k) := ByteArray.mk_append_mk _ _

/-- A number's bytes. -/
def numAcc (n : Nat) (acc : List UInt8) : List UInt8 := if h : n < 128 then acc else numAcc (n / 128) (UInt8.ofNat (128 + n / 128 % 128) :: acc)
termination_by n
decreasing_by omega
def num (n : Nat) : List UInt8 := numAcc n [UInt8.ofNat (n % 128)]
theorem numAcc_small {n : Nat} (h : n < 128) (acc : List UInt8) : numAcc n acc = acc := by rw [numAcc]; simp [h]
theorem numAcc_big {n : Nat} (h : ¬ n < 128) (acc : List UInt8) : numAcc n acc = numAcc (n / 128) (UInt8.ofNat (128 + n / 128 % 128) :: acc) := by rw [numAcc]; simp [h]

theorem numAcc_len : ∀ (k n : Nat) (acc : List UInt8), n < 128 ^ (k + 1) → (numAcc n acc).length ≤ acc.length + k
  | 0, n, acc, h => by rw [numAcc_small (by simpa using h)]; omega
  | k + 1, n, acc, h => by
    by_cases hn : n < 128
    · rw [numAcc_small hn]; omega
    · rw [numAcc_big hn]
      have := numAcc_len k (n / 128) (UInt8.ofNat (128 + n / 128 % 128) :: acc) (by rw [Nat.div_lt_iff_lt_mul (by decide), ← Nat.pow_succ]; exact h)
      rw [List.length_cons] at this; omega
theorem num_len (n : Nat) (h : n < 18446744073709551616) : (num n).length ≤ 10 := by
  have := numAcc_len 9 n [UInt8.ofNat (n % 128)] (by omega)
  simpa [num] using this
theorem conv1 (w : World) (x : Nat) (y : Int) (hx : x < 256) (hy : y = (x : Int)) :
    (convert 88 9 (.slice (some ⟨w.heap.size, 0, none⟩) 1 1)).run Tryz.prog (w.alloc (.cells #[.int .u8 y] 5)) = .ok (.string (bs [UInt8.ofNat x])) (w.alloc (.cells #[.int .u8 y] 5)) := by
  subst hy
  refine run_convert_bytes_back (P := Tryz.prog) _ 88 9 5 ⟨w.heap.size, 0, none⟩ 1 [UInt8.ofNat x] Tryz.underlying88 Tryz.underlying5 Tryz.underlying9 (fun j hj => ?_)
  have : j = 0 := by simpa using hj
  subst this
  simp [Addr.add, UInt8.toNat_ofNat', Nat.mod_eq_of_lt hx]
theorem acc_short {l m n : Nat} (h : 2 ^ l * m ≤ 2 * n) (hm : 1 ≤ m) (hn : n < 18446744073709551616) : l ≤ 64 := by
  have h1 : 2 ^ l ≤ 2 * n := Nat.le_trans (Nat.le_mul_of_pos_right _ hm) h
  have h2 : 2 ^ l < 2 ^ 65 := Nat.lt_of_le_of_lt h1 (by omega)
  have := (Nat.pow_lt_pow_iff_right (by decide : 1 < 2)).1 h2
  omega
theorem acc_step {l m n : Nat} (h : 2 ^ l * m ≤ 2 * n) : 2 ^ (l + 1) * (m / 128) ≤ 2 * n := by
  have : 2 ^ (l + 1) * (m / 128) ≤ 2 ^ l * m := by
    rw [Nat.pow_succ, Nat.mul_assoc]
    exact Nat.mul_le_mul_left _ (by omega)
  omega

set_option maxRecDepth 8000 in
set_option maxHeartbeats 1000000 in
theorem rnum_any (n : Nat) (w : World) (hn : n < 18446744073709551616) :
    Calls Tryz.prog 124 #[.int .u64 n] w fun e w' => e = .returned (.string (bs (num n))) ∧ Pure w w' := by
  have hc := fun W => conv1 W (n % 128) ((n : Int) % 128) (by omega) (by omega)
  have Hn := hid hn
  clear hn
  go_enter Tryz.func124, Tryz.ntmps124
  go_wp2
  clear hc
  go_loopw [0, 3] (fun v0 v3 wr => ∃ (m : Nat) (acc : List UInt8), v0 = .int .u64 m ∧ v3 = .string (bs acc) ∧ numAcc m acc = num n ∧ m ≤ n ∧ 2 ^ acc.length * m ≤ 2 * n ∧ Pure w wr) (fun v0 _ _ => (RowKit.intOf v0).toNat)
  case atStart => exact ⟨n, _, rfl, rfl, rfl, Nat.le_refl _, by simp, (Below.refl _ _).alloc (Nat.le_refl _) _⟩
  case round =>
    obtain ⟨m, acc, rfl, rfl, hacc, hm, hlen, hp⟩ := hrel
    by_cases hlt : m < 128
    · have hlt' : ¬ (128 : Int) ≤ (m : Int) := by omega
      have Hacc := hid ((numAcc_small hlt acc).symm.trans hacc)
      have Hp := hid hp
      clear hacc hlen hp
      go_wp2
      go_ret
      exact ⟨congrArg (fun l => Ending.returned (.string (bs l))) Hacc.out, Hp.out⟩
    · have hlt' : (128 : Int) ≤ (m : Int) := by omega
      have hshort := acc_short hlen (by omega) Hn.out
      have Hlen := hid (acc_step hlen)
      have Hacc := hid ((numAcc_big hlt acc).symm.trans hacc)
      have Hp := hid hp
      obtain ⟨k, hk⟩ : ∃ k, k = m / 128 := ⟨_, rfl⟩
      rw [← hk] at Hlen Hacc
      have hn' := Hn.out
      have hw1 : IntKind.u64.wrap ((m : Int) / 128) = (k : Int) := by rw [IntWalk.u64_in _ (by omega)]; omega
      have hw2 : IntKind.u64.wrap (128 + (k : Int) % 128) = 128 + (k : Int) % 128 := IntWalk.u64_in _ (by omega)
      have hw3 : (128 + (k : Int) % 128) % 256 = 128 + (k : Int) % 128 := by omega
      have hkm : k < m := by omega
      have hc := fun W => conv1 W (128 + k % 128) (128 + (k : Int) % 128) (by omega) (by omega)
      generalize UInt8.ofNat (128 + k % 128) = b at *
      have hns : ¬ 9223372036854775807 < (bs [b]).size + (bs acc).size := by rw [bs_size, bs_size]; simp; omega
      clear hn' hk
      clear hacc hlen hp
      go_wp2
      go_roundw
      case rel => exact ⟨k, b :: acc, by go_num, by rw [bs_append]; rfl, Hacc.out, by omega, by rw [List.length_cons]; exact Hlen.out, Hp.out.alloc Hp.out.size _⟩
      case measure => simp [RowKit.intOf]; omega

set_option maxHeartbeats 1000000 in
theorem rint_any (n : Int) (w : World) (h0 : 0 ≤ n) (hn : n < 9223372036854775808) :
    Calls Tryz.prog 61 #[.int .i64 n] w fun e w' => e = .returned (.string (bs (num n.toNat))) ∧ Pure w w' := by
  obtain ⟨k, rfl⟩ : ∃ k : Nat, n = (k : Int) := ⟨n.toNat, by omega⟩
  have hm := hid (rnum_any k w (by omega))
  have hwr : IntKind.u64.wrap (k : Int) = (k : Int) := IntWalk.u64_in _ (by omega)
  have h0' : ¬ (k : Int) < 0 := by omega
  have hmod : (k : Int) % 18446744073709551616 = (k : Int) := by omega
  clear h0 hn
  go_enter Tryz.func61, Tryz.ntmps61
  go_wp2_with (go_at_call 124; refine hm.out.mono ?_; rintro e w' ⟨rfl, hp⟩; have Hp := hid hp; clear hp)
  go_ret
  exact ⟨by simp, Hp.out⟩

set_option maxHeartbeats 1000000 in
theorem rtext_any (s : List UInt8) (w : World) (hn : s.length ≤ 1000000) :
    Calls Tryz.prog 132 #[.string (bs s)] w fun e w' => e = .returned (.string (bs (num s.length ++ s))) ∧ Pure w w' := by
  have hm := hid (rnum_any s.length w (by omega))
  have hsz := bs_size s
  have hmod : (s.length : Int) % 18446744073709551616 = (s.length : Int) := by omega
  have hbig := num_len s.length (by omega)
  have hns : ¬ 9223372036854775807 < (bs (num s.length)).size + (bs s).size := by rw [bs_size, bs_size]; omega
  have happ := hid (bs_append (num s.length) s)
  clear hn
  generalize bs (num s.length) = N at *
  generalize bs s = S at *
  go_enter Tryz.func132, Tryz.ntmps132
  go_wp2_with (go_at_call 124; refine hm.out.mono ?_; rintro e w' ⟨rfl, hp⟩; have Hp := hid hp; clear hp)
  go_ret
  exact ⟨congrArg (fun x => Ending.returned (.string x)) happ.out, Hp.out⟩
end Go.Proofs.YtdlpnhfgjficgaaGreat
