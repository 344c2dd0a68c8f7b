/- The digits of a number, from either end. strings.Builder: a builder of the call's own, written by WriteString. mint.Num. -/
import Derived.Test.YtdlpnhfgjficgaaGreatBagB
import Derived.Lib.BitFns
import Derived.Lib.Builder
import Derived.Lib.AppendStr
import Derived.Lib.UnsafeStr
import Derived.Laws.Externs
import Derived.Laws.IdiomCopy
import Derived.Test.YtdlpnhfgjficgaaGreatShelf
import Derived.Laws.MakeOwn
namespace Go.Proofs.YtdlpnhfgjficgaaGreat
open Go.RowKit Go.Maps

/-- How many digits. -/
def nd (n : Nat) : Nat := max ((Lib.bitLen n + 6) / 7) 1
def dg (n k : Nat) : Nat := 128 + n / 128 ^ k % 128
def hi (n : Nat) : Nat → List UInt8
  | 0 => []
  | j + 1 => UInt8.ofNat (dg n (j + 1)) :: hi n j
theorem nd_small {n : Nat} (h : n < 128) : nd n = 1 := by
  have := Lib.bitLen_le n 7 (by decide) (by omega)
  unfold nd; omega
theorem bitLen_pos {n : Nat} (h : n ≠ 0) (h2 : n < 18446744073709551616) : 1 ≤ Lib.bitLen n := by
  rw [Lib.bitLen_half n h (by omega)]; omega
theorem nd_big {n : Nat} (h : ¬ n < 128) (h2 : n < 18446744073709551616) : nd n = nd (n / 128) + 1 := by
  have e := Lib.bitLen_shift 7 n (by omega) (by omega)
  have e2 : (2 : Nat) ^ 7 = 128 := rfl
  rw [e2] at e
  have := bitLen_pos (n := n / 128) (by omega) (by omega)
  unfold nd; omega
theorem dg_div (n k : Nat) : dg (n / 128) k = dg n (k + 1) := by
  unfold dg
  rw [Nat.div_div_eq_div_mul, Nat.pow_succ, Nat.mul_comm]
theorem hi_snoc (n : Nat) : ∀ j, hi n (j + 1) = hi (n / 128) j ++ [UInt8.ofNat (dg n 1)]
  | 0 => rfl
  | j + 1 => by
    have ih := hi_snoc n j
    show UInt8.ofNat (dg n (j + 1 + 1)) :: hi n (j + 1) = (UInt8.ofNat (dg (n / 128) (j + 1)) :: hi (n / 128) j) ++ [UInt8.ofNat (dg n 1)]
    rw [ih, dg_div]; rfl
theorem numAcc_hi (n : Nat) (h2 : n < 18446744073709551616) (acc : List UInt8) : numAcc n acc = hi n (nd n - 1) ++ acc := by
  induction n using Nat.strongRecOn generalizing acc with
  | ind n ih =>
    by_cases h : n < 128
    · rw [numAcc_small h, nd_small h]; rfl
    · rw [numAcc_big h, ih (n / 128) (by omega) (by omega), nd_big h h2]
      have e : nd (n / 128) + 1 - 1 = nd (n / 128) - 1 + 1 := by have : 1 ≤ nd (n / 128) := Nat.le_max_right _ _; omega
      rw [e, hi_snoc, List.append_assoc]
      have e2 : dg n 1 = 128 + n / 128 % 128 := by unfold dg; simp
      rw [e2]; rfl
theorem hi_len (n : Nat) : ∀ j, (hi n j).length = j
  | 0 => rfl
  | j + 1 => by simp [hi, hi_len n j]
theorem hi_get (n : Nat) : ∀ i j, j < i → (hi n i)[j]? = some (UInt8.ofNat (dg n (i - j)))
  | 0, j, h => by omega
  | i + 1, 0, _ => rfl
  | i + 1, j + 1, h => by
    have := hi_get n i j (by omega)
    show (hi n i)[j]? = _
    rw [this, Nat.add_sub_add_right]
theorem nd_pos (n : Nat) : 1 ≤ nd n := Nat.le_max_right _ _
theorem nd_le (n : Nat) (h2 : n < 18446744073709551616) : nd n ≤ 10 := by
  have := Lib.bitLen_le n 64 (by decide) (by omega)
  unfold nd; omega
theorem num_nd (n : Nat) (h2 : n < 18446744073709551616) : (num n).length = nd n := by
  have := nd_pos n
  unfold num; rw [numAcc_hi n h2, List.length_append, hi_len]; simp; omega
/-- What stands at place j of a number's bytes. -/
def ndig (n j : Nat) : Nat := if j = nd n - 1 then n % 128 else dg n (nd n - 1 - j)
theorem num_get (n : Nat) (h2 : n < 18446744073709551616) (j : Nat) (hj : j < nd n) : (num n)[j]? = some (UInt8.ofNat (ndig n j)) := by
  unfold num ndig
  rw [numAcc_hi n h2]
  split
  · rename_i h
    rw [List.getElem?_append_right (by rw [hi_len]; omega), hi_len, h]; simp
  · rename_i h
    rw [List.getElem?_append_left (by rw [hi_len]; omega)]
    exact hi_get n _ j (by omega)
theorem ndig_lt (n j : Nat) : ndig n j < 256 := by
  unfold ndig dg; split <;> omega
theorem dg_lt (n j : Nat) : 128 ≤ dg n j ∧ dg n j < 256 := by unfold dg; omega
theorem num_get' (n : Nat) (h2 : n < 18446744073709551616) (j : Nat) (hj : j < (num n).length) : (((num n)[j]).toNat : Int) = (ndig n j : Int) := by
  have h := num_get n h2 j (by rw [← num_nd n h2]; exact hj)
  rw [List.getElem?_eq_getElem hj] at h
  have := Option.some.inj h
  rw [this, UInt8.toNat_ofNat', Nat.mod_eq_of_lt (ndig_lt n j)]
end Go.Proofs.YtdlpnhfgjficgaaGreat

namespace Go.Proofs.YtdlpnhfgjficgaaGreat
open Go.RowKit Go.Maps

theorem sizeBuilder : (Tryz.prog.info? 146).map (·.size) = some 2 := by kernel_rfl
theorem liesBuilder : liesAt Tryz.prog Tryz.prog.depth 146 (2 / Tryz.prog.cellsOf 146) 0 146 1 = true := by kernel_rfl

/-- Block b is a builder that holds the bytes l; v: its buffer. -/
structure Bd (b : Nat) (v : Value) (l : List UInt8) (w : World) : Prop where
  blk : ∃ p, (p = .pointer none ∨ p = .pointer (some ⟨b, 0, none⟩)) ∧ w.heap[b]? = some (.cells #[p, v] 146 (0, 0))
  row : w.ownsRow (b + 1) 5 1 v l.length (Lib.byteCells l)
theorem Bd.pure {b : Nat} {v : Value} {l : List UInt8} {w w' : World} (h : Bd b v l w) (hp : Pure w w') : Bd b v l w' := by
  obtain ⟨⟨p, hpp, hb⟩, hr⟩ := h
  exact ⟨⟨p, hpp, (hp.block _ (lt_of_block hb)).trans hb⟩, own_pure hr hp⟩
theorem Bd.lt {b : Nat} {v : Value} {l : List UInt8} {w : World} (h : Bd b v l w) : b < w.heap.size := by
  obtain ⟨⟨p, hpp, hb⟩, hr⟩ := h
  exact lt_of_block hb
theorem Bd.fresh (w : World) : Bd w.heap.size (.slice none 0 0) [] (w.alloc (.cells #[.pointer none, .slice none 0 0] 146)) :=
  ⟨⟨_, .inl rfl, block_alloc_new _ _⟩, World.ownsRow_nil _ _ _ _⟩
theorem Bd.is {b : Nat} {v : Value} {l : List UInt8} {w : World} (h : Bd b v l w) : Lib.IsBuilder 146 5 b b (Lib.byteCells l) w := by
  obtain ⟨⟨p, hpp, hb⟩, hr⟩ := h
  have hl := Lib.byteCells_length l
  have hA : Lib.BuilderAt 146 5 b b p (Lib.byteCells l) w := ⟨Nat.le_refl _, v, hb, by rw [hl]; exact own_mono hr (Nat.le_succ _), own_ne hr (Nat.lt_succ_self _)⟩
  rcases hpp with rfl | rfl
  · exact .inl hA
  · exact .inr hA

set_option maxHeartbeats 1000000 in
set_option maxRecDepth 100000 in
theorem bcheck_any (b : Nat) (v : Value) (l : List UInt8) (w : World) (h : Bd b v l w) :
    Calls Tryz.prog 169 #[.pointer (some ⟨b, 0, none⟩)] w fun e w' => e = .returned (.tuple #[]) ∧ w'.heap[b]? = some (.cells #[.pointer (some ⟨b, 0, none⟩), v] 146 (0, 0)) ∧ w'.ownsRow (b + 1) 5 1 v l.length (Lib.byteCells l) ∧ Kept (fun k => k = b) w w' := by
  obtain ⟨⟨p, hpp, hb⟩, hr⟩ := h
  obtain ⟨j, hj, hjs⟩ := Option.map_eq_some_iff.1 sizeBuilder
  have h0 : w.cell? ⟨b, 0, none⟩ = some p := cell_of_block hb 0
  have hfz : w.frozen? ⟨b, 0, none⟩ = false := free_of_block hb 0
  have hsh : w.shape? b = some (146, 2) := by simp [World.shape?, hb]
  rcases hpp with rfl | rfl
  · have hfin : Hid ((w.setCell ⟨b, 0, none⟩ (.pointer (some ⟨b, 0, none⟩))).heap[b]? = some (.cells #[.pointer (some ⟨b, 0, none⟩), v] 146 (0, 0)) ∧ (w.setCell ⟨b, 0, none⟩ (.pointer (some ⟨b, 0, none⟩))).ownsRow (b + 1) 5 1 v l.length (Lib.byteCells l) ∧ Kept (fun k => k = b) w (w.setCell ⟨b, 0, none⟩ (.pointer (some ⟨b, 0, none⟩)))) :=
      ⟨by have := block_setCell hb 0 (.pointer (some ⟨b, 0, none⟩)); simpa using this, own_setCell hr ⟨b, 0, none⟩ (Nat.lt_succ_self _) _, Kept.setCell (S := fun k => k = b) (Kept.refl _ w) (p := ⟨b, 0, none⟩) (fun _ => rfl) _⟩
    clear hb hr
    go_enter Tryz.func169, Tryz.ntmps169
    go_wp2
    rw [Lib.run_to_unsafe w ⟨b, 0, none⟩ Tryz.underlying144 Tryz.underlying199 hj (by rw [hjs]; decide) hsh (Nat.zero_lt_succ 1)]
    simp only [Result.andThen]
    rw [Oper.upon_value]
    go_wp2
    rw [run_callFunc_extern Tryz.func201 (by kernel_rfl) (by kernel_rfl) (by kernel_rfl) (e := Extern.AbiNoEscape.same) (by kernel_rfl)]
    rw [Lib.run_noEscape]
    simp only [Result.andThen]
    rw [Oper.upon_value]
    go_wp2
    rw [Lib.run_from_unsafe w ⟨b, 0, none⟩ Tryz.underlying199 Tryz.underlying144 hj hsh liesBuilder]
    simp only [Result.andThen]
    rw [Oper.upon_value]
    go_wp2
    go_end0
    exact ⟨rfl, hfin.out⟩
  · have hfin := hid (And.intro hb (And.intro hr (Kept.refl (fun k => k = b) w)))
    clear hb hr
    go_enter Tryz.func169, Tryz.ntmps169
    go_wp2
    rw [Lib.run_neq_ptr_same w _ Tryz.underlying144 hj]
    go_wp2
    go_end0
    exact ⟨rfl, hfin.out⟩
theorem infoByte : (Tryz.prog.info? 5).map (fun i => (i.zero, i.size, i.bytes)) = some (some (.int .u8 0), 1, 1) := by kernel_rfl
set_option maxHeartbeats 2000000 in
set_option maxRecDepth 100000 in
theorem bwrite_any (b : Nat) (v : Value) (l s : List UInt8) (w : World) (h : Bd b v l w) (hl : l.length + s.length ≤ 1000000000) :
    Calls Tryz.prog 125 #[.pointer (some ⟨b, 0, none⟩), .string (bs s)] w fun e w' => e = .returned (.tuple #[.int .i64 s.length, .nilIface]) ∧ ∃ v', Bd b v' (l ++ s) w' ∧ Kept (fun k => k = b ∨ v.ownBlock = some k) w w' := by
  have hc := hid (bcheck_any b v l w h)
  obtain ⟨i0, hi, hz0, hz1, hz2⟩ := info_parts infoByte
  have hsz := bs_size s
  have hlt := h.lt
  have hstr : Lib.strCells (bs s) = Lib.byteCells s := rfl
  have Hstr := hid hstr
  have Hsz := hid hsz
  have hlong : (bs s).size ≤ 1000000000 := by omega
  clear hstr hsz h
  go_enter Tryz.func125, Tryz.ntmps125
  go_wp2_with fail
  refine hc.out.mono ?_
  rintro e w1 ⟨rfl, hb1, hr1, hk1⟩
  have c0 : w1.cell? ⟨b, 0, none⟩ = some (.pointer (some ⟨b, 0, none⟩)) := cell_of_block hb1 0
  have c1 : w1.cell? ⟨b, 1, none⟩ = some v := cell_of_block hb1 1
  have hltb : b < w1.heap.size := lt_of_block hb1
  have Hb1 := hid hb1
  have Hr1 := hid hr1
  have Hk1 := hid hk1
  obtain ⟨av, cv, rfl⟩ := own_shape_d hr1
  clear hb1 hr1 hk1
  go_wp2_with (at_builtin; refine Lib.wpList_append_own_string _ rfl _ _ 88 9 rfl (b + 1) 5 i0 Tryz.underlying88 Tryz.underlying9 hi hz0 hz1 hz2 _ _ _ rfl Hr1.out (bs s) rfl ?c3 ?c4 ?c5 ?_)
  case c3 => unfold maxLen; omega
  case c4 => omega
  case c5 => omega
  intro v' w2 hown' hgrow _
  have hb2 : w2.heap[b]? = some (.cells #[.pointer (some ⟨b, 0, none⟩), .slice av l.length cv] 146 (0, 0)) :=
    (hgrow.block b hltb (fun e => own_ne Hr1.out (Nat.lt_succ_self _) e.symm)).trans Hb1.out
  have d0 : w2.cell? ⟨b, 0, none⟩ = some (.pointer (some ⟨b, 0, none⟩)) := cell_of_block hb2 0
  have d1 : w2.cell? ⟨b, 1, none⟩ = some (.slice av l.length cv) := cell_of_block hb2 1
  have f1 : w2.frozen? ⟨b, 1, none⟩ = false := free_of_block hb2 1
  obtain ⟨p', k', rfl⟩ := own_shape_d hown'
  have hown2 : w2.ownsRow (b + 1) 5 1 (.slice p' (l.length + (bs s).size) k') (l ++ s).length (Lib.byteCells (l ++ s)) := by
    rw [Hstr.out, ← Lib.byteCells_append] at hown'
    have e : l.length + (bs s).size = (l ++ s).length := by rw [Hsz.out, List.length_append]
    rw [e] at hown' ⊢
    exact hown'
  have hk : Kept (fun k => k = b ∨ (Value.slice av l.length cv).ownBlock = some k) w w2 := (Hk1.out.mono (fun k _ e => Or.inl e)).grown hgrow (fun k hk _ => .inr hk)
  have hfin := hid (show Bd b (.slice p' (l.length + (bs s).size) k') (l ++ s) (w2.setCell ⟨b, 1, none⟩ (.slice p' (l.length + (bs s).size) k')) ∧ Kept (fun k => k = b ∨ (Value.slice av l.length cv).ownBlock = some k) w (w2.setCell ⟨b, 1, none⟩ (.slice p' (l.length + (bs s).size) k')) from
    ⟨⟨⟨_, .inr rfl, by have := block_setCell hb2 1 (.slice p' (l.length + (bs s).size) k'); simpa using this⟩, own_setCell hown2 ⟨b, 1, none⟩ (Nat.lt_succ_self _) _⟩, Kept.setCell (S := fun k => k = b ∨ (Value.slice av l.length cv).ownBlock = some k) hk (p := ⟨b, 1, none⟩) (fun _ => .inl rfl) _⟩)
  clear hb2 hown' hown2 hk hgrow
  go_wp2
  go_ret2
  exact ⟨by rw [Hsz.out]; rfl, _, hfin.out⟩
end Go.Proofs.YtdlpnhfgjficgaaGreat

namespace Go.Proofs.YtdlpnhfgjficgaaGreat
open Go.RowKit Go.Maps

theorem or_and_all : ∀ x : Fin 256, bits .or .u8 (bits .and .u8 ((x.val : Nat) : Int) 127) 128 = ((128 + x.val % 128 : Nat) : Int) := by decide +kernel
theorem andnot_all : ∀ x : Fin 256, bits .andNot .u8 ((x.val : Nat) : Int) 128 = ((x.val % 128 : Nat) : Int) := by decide +kernel
theorem dg_bits (n k : Nat) : bits .or .u8 (bits .and .u8 ((n : Int) / 2 ^ (7 * k) % 256) 127) 128 = (dg n k : Int) := by
  have e : (n : Int) / 2 ^ (7 * k) % 256 = ((n / 128 ^ k % 256 : Nat) : Int) := by
    have : (128 : Nat) ^ k = 2 ^ (7 * k) := by rw [Nat.pow_mul]
    rw [this]; simp
  have h := or_and_all ⟨n / 128 ^ k % 256, Nat.mod_lt _ (by decide)⟩
  rw [e]
  refine h.trans ?_
  unfold dg
  have : n / 128 ^ k % 256 % 128 = n / 128 ^ k % 128 := by omega
  show ((128 + n / 128 ^ k % 256 % 128 : Nat) : Int) = _
  rw [this]
theorem dg0_bits (n : Nat) : bits .andNot .u8 (dg n 0 : Int) 128 = ((n % 128 : Nat) : Int) := by
  have hd := dg_lt n 0
  have h := andnot_all ⟨dg n 0, hd.2⟩
  refine h.trans ?_
  show ((dg n 0 % 128 : Nat) : Int) = _
  unfold dg
  simp
theorem num_set (n M : Nat) (h2 : n < 18446744073709551616) (hM : nd n = M) (cs : Array Value) (hs : cs.size = M) (hv : ∀ j, j < M → cs[j]? = some (.int .u8 (dg n (M - 1 - j) : Int))) :
    ∀ j (hj : j < (num n).length), (cs.setIfInBounds (M - 1) (.int .u8 ((n % 128 : Nat) : Int)))[j]? = some (.int .u8 (((num n)[j]).toNat : Int)) := by
  intro j hj
  have hp := nd_pos n
  rw [num_get' n h2 j hj]
  rw [num_nd n h2, hM] at hj
  unfold ndig
  rw [hM]
  by_cases h : j = M - 1
  · subst h
    rw [if_pos rfl, Array.getElem?_setIfInBounds_self_of_lt (by omega)]
  · rw [if_neg h, Array.getElem?_setIfInBounds_ne (by omega), hv j hj]
set_option maxRecDepth 8000 in
set_option maxHeartbeats 2000000 in
theorem mnum_any (n : Nat) (w : World) (hn : n < 18446744073709551616) :
    Calls Tryz.prog 123 #[.int .u64 n] w fun e w' => e = .returned (.string (bs (num n))) ∧ Pure w w' := by
  have hlen := hid ((Tryz.bits_Len64 (n : Int) w (by omega) (by omega)).mono (R' := fun e w' => e = .returned (.int .i64 (Lib.bitLen n)) ∧ w = w') (fun e w' h => ⟨by rw [h.1, Int.toNat_natCast], h.2.symm⟩))
  have hM : max (((Lib.bitLen n : Int) + 7 - 1) / 7) 1 = (nd n : Int) := by
    unfold nd
    have := Lib.bitLen_le n 64 (by decide) (by omega)
    omega
  have hML := nd_le n hn
  have hMp := nd_pos n
  have hb := Lib.bitLen_le n 64 (by decide) (by omega)
  obtain ⟨i0, hi, hz0, hz1, hz2⟩ := info_parts infoByte
  have hmk : ∀ W, (Instr.makeSlice 88 (.int .i64 (nd n : Int)) (.int .i64 (nd n : Int))).run Tryz.prog W = .ok (.slice (some ⟨W.heap.size, 0, none⟩) (nd n) (nd n)) (W.alloc (.cells (madeCells (Value.int .u8 0).cells (nd n)) 5)) := fun W => by
    have h := run_make (P := Tryz.prog) W 88 5 i0 _ Tryz.underlying88 hi hz0 .i64 .i64 (nd n : Int) (nd n : Int) (by omega) (Int.le_refl _) (by rw [hz2]; omega) (by omega)
    rw [h, hz1]; simp
  have hZ : (madeCells (Value.int .u8 0).cells (nd n)).size = nd n := size_madeCells _ _
  have hset := hid (num_set n (nd n) hn rfl)
  have hbits := dg_bits n
  have hbits0 := hid (dg0_bits n)
  have hnl := hid (num_nd n hn)
  have Hn := hid hn
  clear hn hi hz0 hz1 hz2
  generalize madeCells (Value.int .u8 0).cells (nd n) = Z at *
  generalize Lib.bitLen n = L at *
  generalize hMe : nd n = M at *
  have HMe := hid hMe
  have hZs := hid hZ
  clear hMe hZ
  go_enter Tryz.func123, Tryz.ntmps123
  go_wp2_with (go_at_call 168; refine hlen.out.mono ?_; rintro e w' ⟨rfl, rfl⟩)
  clear hmk hM
  go_loopw [5, 16] (fun _ i wr => ∃ k : Nat, k ≤ M ∧ i = .int .i64 k ∧ (∃ cs, wr.heap[w.heap.size]? = some (.cells cs 5 (0, 0)) ∧ cs.size = M ∧ ∀ j, M - k ≤ j → j < M → cs[j]? = some (.int .u8 (dg n (M - 1 - j) : Int))) ∧ Pure w wr) (fun _ i _ => M - (RowKit.intOf i).toNat)
  case atStart => exact ⟨0, Nat.zero_le _, rfl, ⟨Z, block_alloc_new _ _, hZs.out, fun j h1 h2 => by omega⟩, (Below.refl _ _).alloc (Nat.le_refl _) _⟩
  case round =>
    obtain ⟨k, hk, rfl, ⟨cs, hcs, hsz, hval⟩, hp⟩ := hrel
    by_cases hlt : k < M
    · have hlt' : (k : Int) < (M : Int) := by omega
      obtain ⟨v0, hv0⟩ : ∃ v0, cs[M - 1 - k]? = some v0 := ⟨cs[M - 1 - k]'(by omega), Array.getElem?_eq_getElem (by omega)⟩
      have c0 : wr.cell? ⟨w.heap.size, M - 1 - k, none⟩ = some v0 := (cell_of_block hcs (M - 1 - k)).trans hv0
      have f0 : wr.frozen? ⟨w.heap.size, M - 1 - k, none⟩ = false := free_of_block hcs (M - 1 - k)
      have Hcs := hid hcs
      have Hv := hid hval
      have Hp := hid hp
      have h1 : (0 : Int) ≤ (M : Int) - 1 - (k : Int) := by omega
      have h2 : (M : Int) - 1 - (k : Int) < (M : Int) := by omega
      clear hcs hval hp hv0
      go_wp2
      have hfin := hid (show ∃ cs', (wr.setCell ⟨w.heap.size, M - 1 - k, none⟩ (.int .u8 (dg n k : Int))).heap[w.heap.size]? = some (.cells cs' 5 (0, 0)) ∧ cs'.size = M ∧ ∀ j, M - (k + 1) ≤ j → j < M → cs'[j]? = some (.int .u8 (dg n (M - 1 - j) : Int)) from by
        refine ⟨_, block_setCell Hcs.out _ _, by simpa using hsz, fun j h3 h4 => ?_⟩
        by_cases he : j = M - 1 - k
        · subst he
          rw [Array.getElem?_setIfInBounds_self_of_lt (by omega), show M - 1 - (M - 1 - k) = k by omega]
        · rw [Array.getElem?_setIfInBounds_ne (by omega)]
          exact Hv.out j (by omega) h4)
      have hbk := hid (hbits k)
      clear hbits hsz
      go_wp2
      go_roundw
      case rel => exact ⟨k + 1, by omega, by go_num, hfin.out, Hp.out.setCell (Nat.le_refl _) _⟩
      case measure => simp [RowKit.intOf]; omega
    · have hlt' : ¬ (k : Int) < (M : Int) := by omega
      have hv : ∀ j, j < M → cs[j]? = some (.int .u8 (dg n (M - 1 - j) : Int)) := fun j hj => hval j (by omega) hj
      have hgd := hset.out cs hsz hv
      have c0 : wr.cell? ⟨w.heap.size, M - 1, none⟩ = some (.int .u8 (dg n 0 : Int)) := (cell_of_block hcs (M - 1)).trans (by rw [hv (M - 1) (by omega), Nat.sub_self])
      have f0 : wr.frozen? ⟨w.heap.size, M - 1, none⟩ = false := free_of_block hcs (M - 1)
      have h1 : (0 : Int) ≤ (M : Int) - 1 := by omega
      have h2 : (M : Int) - 1 < (M : Int) := by omega
      have hb0 := hbits0.out
      have hc1 : ((n % 128 : Nat) : Int) = (n : Int) % 128 := by omega
      rw [hc1] at hb0 hgd
      have hblk := hid (block_setCell hcs (M - 1) (.int .u8 ((n : Int) % 128)))
      have Hgd := hid hgd
      have Hp := hid (show Pure w (wr.setCell ⟨w.heap.size, M - 1, none⟩ (.int .u8 ((n : Int) % 128))) from hp.setCell (Nat.le_refl _) _)
      have hcv : (convert 88 9 (.slice (some ⟨w.heap.size, 0, none⟩) M M)).run Tryz.prog (wr.setCell ⟨w.heap.size, M - 1, none⟩ (.int .u8 ((n : Int) % 128))) = .ok (.string (bs (num n))) (wr.setCell ⟨w.heap.size, M - 1, none⟩ (.int .u8 ((n : Int) % 128))) := by
        have h := run_convert_bytes_back (P := Tryz.prog) (wr.setCell ⟨w.heap.size, M - 1, none⟩ (.int .u8 ((n : Int) % 128))) 88 9 5 ⟨w.heap.size, 0, none⟩ M (num n) Tryz.underlying88 Tryz.underlying5 Tryz.underlying9 (fun j hj => by
          rw [Addr.add_lit, Nat.zero_add, cell_of_block hblk.out]; exact Hgd.out j hj)
        rw [hnl.out] at h
        exact h
      clear hgd hv hcs hval hp hbits hsz hc1
      generalize hR : bs (num n) = R at hcv
      have HR := hid hR
      clear hR
      go_wp2
      go_ret
      exact ⟨by rw [HR.out]; rfl, Hp.out⟩

set_option maxHeartbeats 1000000 in
theorem mint_any (n : Int) (w : World) (h0 : 0 ≤ n) (hn : n < 9223372036854775808) :
    Calls Tryz.prog 60 #[.int .i64 n] w fun e w' => e = .returned (.string (bs (num n.toNat))) ∧ Pure w w' := by
  obtain ⟨k, rfl⟩ : ∃ k : Nat, n = (k : Int) := ⟨n.toNat, by omega⟩
  have hm := hid (mnum_any k w (by omega))
  have hmod : (k : Int) % 18446744073709551616 = (k : Int) := by omega
  have hmax : max (k : Int) 0 = (k : Int) := by omega
  clear h0 hn
  go_enter Tryz.func60, Tryz.ntmps60
  go_wp2_with (go_at_call 123; refine hm.out.mono ?_; rintro e w' ⟨rfl, hp⟩; have Hp := hid hp; clear hp)
  go_ret
  exact ⟨by simp, Hp.out⟩

set_option maxHeartbeats 1000000 in
theorem mtext_any (s : List UInt8) (w : World) (hn : s.length ≤ 1000000) :
    Calls Tryz.prog 128 #[.string (bs s)] w fun e w' => e = .returned (.string (bs (num s.length ++ s))) ∧ Pure w w' := by
  have hm := hid (mnum_any s.length w (by omega))
  have hsz := bs_size s
  have hmod : (s.length : Int) % 18446744073709551616 = (s.length : Int) := by omega
  have hbig := num_len s.length (by omega)
  have hns : ¬ 9223372036854775807 < (bs (num s.length)).size + (bs s).size := by rw [bs_size, bs_size]; omega
  have happ := hid (bs_append (num s.length) s)
  clear hn
  generalize bs (num s.length) = N at *
  generalize bs s = S at *
  go_enter Tryz.func128, Tryz.ntmps128
  go_wp2_with (go_at_call 123; refine hm.out.mono ?_; rintro e w' ⟨rfl, hp⟩; have Hp := hid hp; clear hp)
  go_ret
  exact ⟨congrArg (fun x => Ending.returned (.string x)) happ.out, Hp.out⟩
end Go.Proofs.YtdlpnhfgjficgaaGreat

