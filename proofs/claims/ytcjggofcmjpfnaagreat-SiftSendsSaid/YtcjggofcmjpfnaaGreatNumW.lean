/- mint.Num. -/
import Derived.Test.YtcjggofcmjpfnaaGreatBuild
import Derived.Test.YtcjggofcmjpfnaaGreatShelf
import Derived.Laws.MakeOwn
namespace Go.Proofs.YtcjggofcmjpfnaaGreat
open Go.RowKit Go.Maps

theorem or_and_all : ∀ x : Fin 256, bits .or .u8 (bits .and .u8 ((x.val : Nat) : Int) 127) 128 = ((128 + x.val % 128 : Nat) : Int) := by decide +kernel
theorem andnot_all : ∀ x : Fin 256, bits .andNot .u8 ((x.val : Nat) : Int) 128 = ((x.val % 128 : Nat) : Int) := by decide +kernel
theorem dg_bits (n k : Nat) : bits .or .u8 (bits .and .u8 ((n : Int) / 2 ^ (7 * k) % 256) 127) 128 = (dg n k : Int) := by
  have e : (n : Int) / 2 ^ (7 * k) % 256 = ((n / 128 ^ k % 256 : Nat) : Int) := by
    have : (128 : Nat) ^ k = 2 ^ (7 * k) := by rw [Nat.pow_mul]
    rw [this]; simp
  have h := or_and_all ⟨n / 128 ^ k % 256, Nat.mod_lt _ (by decide)⟩
  rw [e]
  refine h.trans ?_
  unfold dg
  have : n / 128 ^ k % 256 % 128 = n / 128 ^ k % 128 := by omega
  show ((128 + n / 128 ^ k % 256 % 128 : Nat) : Int) = _
  rw [this]
theorem dg0_bits (n : Nat) : bits .andNot .u8 (dg n 0 : Int) 128 = ((n % 128 : Nat) : Int) := by
  have hd := dg_lt n 0
  have h := andnot_all ⟨dg n 0, hd.2⟩
  refine h.trans ?_
  show ((dg n 0 % 128 : Nat) : Int) = _
  unfold dg
  simp
theorem num_set (n M : Nat) (h2 : n < 18446744073709551616) (hM : nd n = M) (cs : Array Value) (hs : cs.size = M) (hv : ∀ j, j < M → cs[j]? = some (.int .u8 (dg n (M - 1 - j) : Int))) :
    ∀ j (hj : j < (num n).length), (cs.setIfInBounds (M - 1) (.int .u8 ((n % 128 : Nat) : Int)))[j]? = some (.int .u8 (((num n)[j]).toNat : Int)) := by
  intro j hj
  have hp := nd_pos n
  rw [num_get' n h2 j hj]
  rw [num_nd n h2, hM] at hj
  unfold ndig
  rw [hM]
  by_cases h : j = M - 1
  · subst h
    rw [if_pos rfl, Array.getElem?_setIfInBounds_self_of_lt (by omega)]
  · rw [if_neg h, Array.getElem?_setIfInBounds_ne (by omega), hv j hj]
set_option maxRecDepth 8000 in
set_option maxHeartbeats 2000000 in
theorem mnum_any (n : Nat) (w : World) (hn : n < 18446744073709551616) :
    Calls Tryz.prog 112 #[.int .u64 n] w fun e w' => e = .returned (.string (bs (num n))) ∧ Pure w w' := by
  have hlen := hid ((Tryz.bits_Len64 (n : Int) w (by omega) (by omega)).mono (R' := fun e w' => e = .returned (.int .i64 (Lib.bitLen n)) ∧ w = w') (fun e w' h => ⟨by rw [h.1, Int.toNat_natCast], h.2.symm⟩))
  have hM : max (((Lib.bitLen n : Int) + 7 - 1) / 7) 1 = (nd n : Int) := by
    unfold nd
    have := Lib.bitLen_le n 64 (by decide) (by omega)
    omega
  have hML := nd_le n hn
  have hMp := nd_pos n
  have hb := Lib.bitLen_le n 64 (by decide) (by omega)
  obtain ⟨i0, hi, hz0, hz1, hz2⟩ := info_parts infoByte
  have hmk : ∀ W, (Instr.makeSlice 117 (.int .i64 (nd n : Int)) (.int .i64 (nd n : Int))).run Tryz.prog W = .ok (.slice (some ⟨W.heap.size, 0, none⟩) (nd n) (nd n)) (W.alloc (.cells (madeCells (Value.int .u8 0).cells (nd n)) 5)) := fun W => by
    have h := run_make (P := Tryz.prog) W 117 5 i0 _ Tryz.underlying117 hi hz0 .i64 .i64 (nd n : Int) (nd n : Int) (by omega) (Int.le_refl _) (by rw [hz2]; omega) (by omega)
    rw [h, hz1]; simp
  have hZ : (madeCells (Value.int .u8 0).cells (nd n)).size = nd n := size_madeCells _ _
  have hset := hid (num_set n (nd n) hn rfl)
  have hbits := dg_bits n
  have hbits0 := hid (dg0_bits n)
  have hnl := hid (num_nd n hn)
  have Hn := hid hn
  clear hn hi hz0 hz1 hz2
  generalize madeCells (Value.int .u8 0).cells (nd n) = Z at *
  generalize Lib.bitLen n = L at *
  generalize hMe : nd n = M at *
  have HMe := hid hMe
  have hZs := hid hZ
  clear hMe hZ
  go_enter Tryz.func112, Tryz.ntmps112
  go_wp2_with (go_at_call 125; refine hlen.out.mono ?_; rintro e w' ⟨rfl, rfl⟩)
  clear hmk hM
  go_loopw [5, 16] (fun _ i wr => ∃ k : Nat, k ≤ M ∧ i = .int .i64 k ∧ (∃ cs, wr.heap[w.heap.size]? = some (.cells cs 5 (0, 0)) ∧ cs.size = M ∧ ∀ j, M - k ≤ j → j < M → cs[j]? = some (.int .u8 (dg n (M - 1 - j) : Int))) ∧ Pure w wr) (fun _ i _ => M - (RowKit.intOf i).toNat)
  case atStart => exact ⟨0, Nat.zero_le _, rfl, ⟨Z, block_alloc_new _ _, hZs.out, fun j h1 h2 => by omega⟩, (Below.refl _ _).alloc (Nat.le_refl _) _⟩
  case round =>
    obtain ⟨k, hk, rfl, ⟨cs, hcs, hsz, hval⟩, hp⟩ := hrel
    by_cases hlt : k < M
    · have hlt' : (k : Int) < (M : Int) := by omega
      obtain ⟨v0, hv0⟩ : ∃ v0, cs[M - 1 - k]? = some v0 := ⟨cs[M - 1 - k]'(by omega), Array.getElem?_eq_getElem (by omega)⟩
      have c0 : wr.cell? ⟨w.heap.size, M - 1 - k, none⟩ = some v0 := (cell_of_block hcs (M - 1 - k)).trans hv0
      have f0 : wr.frozen? ⟨w.heap.size, M - 1 - k, none⟩ = false := free_of_block hcs (M - 1 - k)
      have Hcs := hid hcs
      have Hv := hid hval
      have Hp := hid hp
      have h1 : (0 : Int) ≤ (M : Int) - 1 - (k : Int) := by omega
      have h2 : (M : Int) - 1 - (k : Int) < (M : Int) := by omega
      clear hcs hval hp hv0
      go_wp2
      have hfin := hid (show ∃ cs', (wr.setCell ⟨w.heap.size, M - 1 - k, none⟩ (.int .u8 (dg n k : Int))).heap[w.heap.size]? = some (.cells cs' 5 (0, 0)) ∧ cs'.size = M ∧ ∀ j, M - (k + 1) ≤ j → j < M → cs'[j]? = some (.int .u8 (dg n (M - 1 - j) : Int)) from by
        refine ⟨_, block_setCell Hcs.out _ _, by simpa using hsz, fun j h3 h4 => ?_⟩
        by_cases he : j = M - 1 - k
        · subst he
          rw [Array.getElem?_setIfInBounds_self_of_lt (by omega), show M - 1 - (M - 1 - k) = k by omega]
        · rw [Array.getElem?_setIfInBounds_ne (by omega)]
          exact Hv.out j (by omega) h4)
      have hbk := hid (hbits k)
      clear hbits hsz
      go_wp2
      go_roundw
      case rel => exact ⟨k + 1, by omega, by go_num, hfin.out, Hp.out.setCell (Nat.le_refl _) _⟩
      case measure => simp [RowKit.intOf]; omega
    · have hlt' : ¬ (k : Int) < (M : Int) := by omega
      have hv : ∀ j, j < M → cs[j]? = some (.int .u8 (dg n (M - 1 - j) : Int)) := fun j hj => hval j (by omega) hj
      have hgd := hset.out cs hsz hv
      have c0 : wr.cell? ⟨w.heap.size, M - 1, none⟩ = some (.int .u8 (dg n 0 : Int)) := (cell_of_block hcs (M - 1)).trans (by rw [hv (M - 1) (by omega), Nat.sub_self])
      have f0 : wr.frozen? ⟨w.heap.size, M - 1, none⟩ = false := free_of_block hcs (M - 1)
      have h1 : (0 : Int) ≤ (M : Int) - 1 := by omega
      have h2 : (M : Int) - 1 < (M : Int) := by omega
      have hb0 := hbits0.out
      have hc1 : ((n % 128 : Nat) : Int) = (n : Int) % 128 := by omega
      rw [hc1] at hb0 hgd
      have hblk := hid (block_setCell hcs (M - 1) (.int .u8 ((n : Int) % 128)))
      have Hgd := hid hgd
      have Hp := hid (show Pure w (wr.setCell ⟨w.heap.size, M - 1, none⟩ (.int .u8 ((n : Int) % 128))) from hp.setCell (Nat.le_refl _) _)
      have hcv : (convert 117 9 (.slice (some ⟨w.heap.size, 0, none⟩) M M)).run Tryz.prog (wr.setCell ⟨w.heap.size, M - 1, none⟩ (.int .u8 ((n : Int) % 128))) = .ok (.string (bs (num n))) (wr.setCell ⟨w.heap.size, M - 1, none⟩ (.int .u8 ((n : Int) % 128))) := by
        have h := run_convert_bytes_back (P := Tryz.prog) (wr.setCell ⟨w.heap.size, M - 1, none⟩ (.int .u8 ((n : Int) % 128))) 117 9 5 ⟨w.heap.size, 0, none⟩ M (num n) Tryz.underlying117 Tryz.underlying5 Tryz.underlying9 (fun j hj => by
          rw [Addr.add_lit, Nat.zero_add, cell_of_block hblk.out]; exact Hgd.out j hj)
        rw [hnl.out] at h
        exact h
      clear hgd hv hcs hval hp hbits hsz hc1
      generalize hR : bs (num n) = R at hcv
      have HR := hid hR
      clear hR
      go_wp2
      go_ret
      exact ⟨by rw [HR.out]; rfl, Hp.out⟩

set_option maxHeartbeats 1000000 in
theorem mint_any (n : Int) (w : World) (h0 : 0 ≤ n) (hn : n < 9223372036854775808) :
    Calls Tryz.prog 97 #[.int .i64 n] w fun e w' => e = .returned (.string (bs (num n.toNat))) ∧ Pure w w' := by
  obtain ⟨k, rfl⟩ : ∃ k : Nat, n = (k : Int) := ⟨n.toNat, by omega⟩
  have hm := hid (mnum_any k w (by omega))
  have hmod : (k : Int) % 18446744073709551616 = (k : Int) := by omega
  have hmax : max (k : Int) 0 = (k : Int) := by omega
  clear h0 hn
  go_enter Tryz.func97, Tryz.ntmps97
  go_wp2_with (go_at_call 112; refine hm.out.mono ?_; rintro e w' ⟨rfl, hp⟩; have Hp := hid hp; clear hp)
  go_ret
  exact ⟨by simp, Hp.out⟩

set_option maxHeartbeats 1000000 in
theorem mtext_any (s : List UInt8) (w : World) (hn : s.length ≤ 1000000) :
    Calls Tryz.prog 99 #[.string (bs s)] w fun e w' => e = .returned (.string (bs (num s.length ++ s))) ∧ Pure w w' := by
  have hm := hid (mnum_any s.length w (by omega))
  have hsz := bs_size s
  have hmod : (s.length : Int) % 18446744073709551616 = (s.length : Int) := by omega
  have hbig := num_len s.length (by omega)
  have hns : ¬ 9223372036854775807 < (bs (num s.length)).size + (bs s).size := by rw [bs_size, bs_size]; omega
  have happ := hid (bs_append (num s.length) s)
  clear hn
  generalize bs (num s.length) = N at *
  generalize bs s = S at *
  go_enter Tryz.func99, Tryz.ntmps99
  go_wp2_with (go_at_call 112; refine hm.out.mono ?_; rintro e w' ⟨rfl, hp⟩; have Hp := hid hp; clear hp)
  go_ret
  exact ⟨congrArg (fun x => Ending.returned (.string x)) happ.out, Hp.out⟩
end Go.Proofs.YtcjggofcmjpfnaaGreat
