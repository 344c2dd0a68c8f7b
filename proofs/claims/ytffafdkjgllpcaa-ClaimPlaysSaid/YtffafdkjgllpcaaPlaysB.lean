/- The document's claim beside the program's: what both hold, and its methods' contracts in the words of the program's claim. -/
import Derived.Test.YtffafdkjgllpcaaPlaysA
import Derived.Test.YtffafdkjgllpcaaClaimI
namespace Go.Proofs.Ytffafdkjgllpcaa
open Go.RowKit Go.Maps

structure RC where
  d1 : Int
  d2 : Int
  receipt : Int
  start : Int
  term : Int
  skew : Int
  owners : List Int
  ans : List Bool
  said : List Bool
  ended : Bool
  closed : Bool

def B' (b : Bool) : Value := .bool b
def RC.cells (r : RC) (vo : Value) (ba bs : Nat) : Array Value := #[I r.d1, I r.d2, I r.receipt, I r.start, I r.term, I r.skew, vo, .slice (some ⟨ba, 0, none⟩) r.owners.length r.owners.length, .slice (some ⟨bs, 0, none⟩) r.owners.length r.owners.length, .bool r.ended, .bool r.closed]

structure RCAt (w : World) (b ba bs : Nat) (vo : Value) (r : RC) : Prop where
  blk : w.heap[b]? = some (.cells (r.cells vo ba bs) 46 (0, 0))
  own : Ints w vo r.owners
  ans : w.heap[ba]? = some (.cells (r.ans.map Value.bool).toArray 4 (0, 0))
  said : w.heap[bs]? = some (.cells (r.said.map Value.bool).toArray 4 (0, 0))
  alen : r.ans.length = r.owners.length
  slen : r.said.length = r.owners.length
  olen : r.owners.length ≤ 64
  sep : vo.rb ≠ some b
  sepa : vo.rb ≠ some ba
  seps : vo.rb ≠ some bs
  n1 : b ≠ ba
  n2 : b ≠ bs
  n3 : ba ≠ bs

theorem RCAt.kept {S : Nat → Prop} {w w' : World} {b ba bs : Nat} {vo : Value} {r : RC} (h : RCAt w b ba bs vo r) (hk : Kept S w w') (h1 : ¬ S b) (h2 : ¬ S ba) (h3 : ¬ S bs) (h4 : ∀ k, vo.rb = some k → ¬ S k) : RCAt w' b ba bs vo r :=
  { h with
    blk := (hk.block b (lt_of_block h.blk) h1).trans h.blk
    own := h.own.kept hk h4
    ans := (hk.block ba (lt_of_block h.ans) h2).trans h.ans
    said := (hk.block bs (lt_of_block h.said) h3).trans h.said }
theorem RCAt.pure {w w' : World} {b ba bs : Nat} {vo : Value} {r : RC} (h : RCAt w b ba bs vo r) (hk : Pure w w') : RCAt w' b ba bs vo r :=
  h.kept (S := fun _ => False) hk.kept (fun h => h) (fun h => h) (fun h => h) (fun _ _ h => h)

/-- How many of the first k have answered so. -/
def cnt16 (A S : List Bool) (z : Bool) : Nat → Nat
  | 0 => 0
  | k + 1 => cnt16 A S z k + if A.getD k false && (S.getD k false == z) then 1 else 0
theorem cnt16_le (A S : List Bool) (z : Bool) : ∀ k, cnt16 A S z k ≤ k
  | 0 => Nat.le_refl _
  | k + 1 => by have := cnt16_le A S z k; unfold cnt16; split <;> omega

/-- How it stands, by the counts. -/
def stOf (K y n : Nat) (ended closed : Bool) : Int := if K / 2 + 1 ≤ y then (if ended then 3 else 1) else if closed || decide (K - n < K / 2 + 1) then 2 else 0

theorem bool_cell {w : World} {g : Nat} {S : List Bool} {T : TypeId} (h : w.heap[g]? = some (.cells (S.map Value.bool).toArray T (0, 0))) {i : Nat} (hi : i < S.length) : w.cell? ⟨g, i, none⟩ = some (.bool (S.getD i false)) := by
  rw [cell_of_block h i]; simp [List.getD, hi]

set_option maxHeartbeats 1000000 in
theorem rstate_any (b ba bs : Nat) (vo : Value) (r : RC) (w : World) (h : RCAt w b ba bs vo r) :
    Calls Try.prog 25 #[.pointer (some ⟨b, 0, none⟩)] w fun e w' => e = .returned (.int .i64 (stOf r.owners.length (cnt16 r.ans r.said true r.owners.length) (cnt16 r.ans r.said false r.owners.length) r.ended r.closed)) ∧ w = w' := by
  have c6 : w.cell? ⟨b, 6, none⟩ = some vo := cell_of_block h.blk 6
  have c7 : w.cell? ⟨b, 7, none⟩ = some (.slice (some ⟨ba, 0, none⟩) r.owners.length r.owners.length) := cell_of_block h.blk 7
  have c8 : w.cell? ⟨b, 8, none⟩ = some (.slice (some ⟨bs, 0, none⟩) r.owners.length r.owners.length) := cell_of_block h.blk 8
  have c9 : w.cell? ⟨b, 9, none⟩ = some (.bool r.ended) := cell_of_block h.blk 9
  have c10 : w.cell? ⟨b, 10, none⟩ = some (.bool r.closed) := cell_of_block h.blk 10
  have ha : Hid (∀ i, i < r.owners.length → w.cell? ⟨ba, i, none⟩ = some (.bool (r.ans.getD i false))) := fun i hi => bool_cell h.ans (by rw [h.alen]; exact hi)
  have hs : Hid (∀ i, i < r.owners.length → w.cell? ⟨bs, i, none⟩ = some (.bool (r.said.getD i false))) := fun i hi => bool_cell h.said (by rw [h.slen]; exact hi)
  obtain ⟨a, cap, rfl⟩ := h.own.shape
  have hl := h.olen
  have hm := hid (major_any r.owners.length w (by omega))
  have Hh := hid h
  clear h
  generalize r.ended = E at *
  generalize r.closed = C at *
  generalize r.owners.length = K at *
  go_enter Try.func25, Try.ntmps25
  go_wp2
  go_loop [3, 4, 5] (fun y n i => ∃ k : Nat, k ≤ K ∧ i = .int .i64 k ∧ y = .int .i64 (cnt16 r.ans r.said true k) ∧ n = .int .i64 (cnt16 r.ans r.said false k)) (fun _ _ i => K - (RowKit.intOf i).toNat)
  case atStart => exact ⟨0, Nat.zero_le _, rfl, rfl, rfl⟩
  case round =>
    obtain ⟨k, hk, rfl, rfl, rfl⟩ := hrel
    have q1 := cnt16_le r.ans r.said true k
    have q2 := cnt16_le r.ans r.said false k
    by_cases hlt : k < K
    · have k1 := ha.out k hlt
      have k2 := hs.out k hlt
      have hlt' : (k : Int) < (K : Int) := by omega
      have e1 := hid (show cnt16 r.ans r.said true (k + 1) = cnt16 r.ans r.said true k + if r.ans.getD k false && (r.said.getD k false == true) then 1 else 0 from rfl)
      have e2 := hid (show cnt16 r.ans r.said false (k + 1) = cnt16 r.ans r.said false k + if r.ans.getD k false && (r.said.getD k false == false) then 1 else 0 from rfl)
      generalize r.ans.getD k false = A at *
      generalize r.said.getD k false = S at *
      generalize cnt16 r.ans r.said true k = y at *
      generalize cnt16 r.ans r.said false k = n at *
      cases A <;> cases S <;>
      · go_wp2
        go_round
        case rel => exact ⟨k + 1, by omega, by go_num, by rw [e1.out]; simp, by rw [e2.out]; simp⟩
        case measure => simp [RowKit.intOf]; omega
    · obtain rfl : k = K := by omega
      generalize hye : cnt16 r.ans r.said true k = y at *
      generalize hne : cnt16 r.ans r.said false k = n at *
      have Hye := hid hye
      have Hne := hid hne
      clear hye hne
      have hw : IntKind.i64.wrap ((k : Int) - (n : Int)) = (k : Int) - n := IntWalk.i64_in _ (by omega)
      by_cases hy : k / 2 + 1 ≤ y
      · have hy' : (k : Int) / 2 + 1 ≤ (y : Int) := by omega
        have Hy := hid hy
        clear hy
        cases E <;>
        · go_wp2_with (go_at_call 36; refine hm.out.mono ?_; rintro e w' ⟨rfl, rfl⟩)
          go_ret
          exact ⟨ret_int (by unfold stOf; rw [Hye.out, Hne.out, if_pos Hy.out]; rfl), rfl⟩
      · have hy' : ¬ (k : Int) / 2 + 1 ≤ (y : Int) := by omega
        have Hy := hid hy
        clear hy
        cases C with
        | true =>
          go_wp2_with (go_at_call 36; refine hm.out.mono ?_; rintro e w' ⟨rfl, rfl⟩)
          go_ret
          exact ⟨ret_int (by unfold stOf; rw [Hye.out, Hne.out, if_neg Hy.out]; rfl), rfl⟩
        | false =>
          by_cases hn : k - n < k / 2 + 1
          · have hn' : (k : Int) - (n : Int) < (k : Int) / 2 + 1 := by omega
            have Hn := hid hn
            clear hn
            go_wp2_with (go_at_call 36; refine hm.out.mono ?_; rintro e w' ⟨rfl, rfl⟩)
            go_ret
            exact ⟨ret_int (by unfold stOf; rw [Hye.out, Hne.out, if_neg Hy.out, decide_eq_true Hn.out]; rfl), rfl⟩
          · have hn' : ¬ (k : Int) - (n : Int) < (k : Int) / 2 + 1 := by omega
            have Hn := hid hn
            clear hn
            go_wp2_with (go_at_call 36; refine hm.out.mono ?_; rintro e w' ⟨rfl, rfl⟩)
            go_ret
            exact ⟨ret_int (by unfold stOf; rw [Hye.out, Hne.out, if_neg Hy.out, decide_eq_false Hn.out]; rfl), rfl⟩
end Go.Proofs.Ytffafdkjgllpcaa
