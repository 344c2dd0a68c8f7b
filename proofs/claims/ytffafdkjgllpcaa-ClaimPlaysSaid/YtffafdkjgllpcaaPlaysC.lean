/- The relation between the program's claim and the document's, kept by each call; ref16's Answer, End, Valid. -/
import Derived.Test.YtffafdkjgllpcaaPlaysB
namespace Go.Proofs.Ytffafdkjgllpcaa
open Go.RowKit Go.Maps

structure Pair (c : CM) (r : RC) : Prop where
  owners : r.owners = c.owners
  start : r.start = c.start
  term : r.term = c.term
  skew : r.skew = c.skew
  nd : c.owners.Nodup
  ans : ∀ i, i < c.owners.length → r.ans.getD i false = (mlook c.said (c.owners.getD i 0)).isSome
  said : ∀ i, i < c.owners.length → r.ans.getD i false = true → r.said.getD i false = (mlook c.said (c.owners.getD i 0) == some true)
  st : c.state = stOf c.owners.length (saidL c.said true c.owners).length (saidL c.said false c.owners).length r.ended r.closed
  noend : r.ended = true → c.owners.length / 2 + 1 ≤ (saidL c.said true c.owners).length

theorem pair_cnt {c : CM} {r : RC} (h : Pair c r) (z : Bool) : ∀ k, k ≤ c.owners.length → cnt16 r.ans r.said z k = (saidL c.said z (c.owners.take k)).length
  | 0, _ => by simp [cnt16, saidL]
  | k + 1, hk => by
    have ih := pair_cnt h z k (by omega)
    rw [saidL_take _ _ _ _ (by omega)]
    unfold cnt16
    rw [ih]
    have h1 := h.ans k (by omega)
    have h2 := h.said k (by omega)
    rw [h1] at h2 ⊢
    cases hm : mlook c.said (c.owners.getD k 0) with
    | none => simp
    | some v =>
      rw [hm] at h2
      have h3 := h2 rfl
      rw [h3]
      cases v <;> cases z <;> simp
theorem pair_cnt_all {c : CM} {r : RC} (h : Pair c r) (z : Bool) : cnt16 r.ans r.said z r.owners.length = (saidL c.said z c.owners).length := by
  have := pair_cnt h z c.owners.length (Nat.le_refl _)
  rw [List.take_length] at this
  rw [h.owners]; exact this
theorem pair_state {c : CM} {r : RC} (h : Pair c r) : stOf r.owners.length (cnt16 r.ans r.said true r.owners.length) (cnt16 r.ans r.said false r.owners.length) r.ended r.closed = c.state := by
  rw [pair_cnt_all h, pair_cnt_all h, h.owners, h.st]

theorem pair_open {c : CM} {r : RC} (h : Pair c r) (h0 : c.state = 0) : r.ended = false ∧ r.closed = false ∧ ¬ c.owners.length / 2 + 1 ≤ (saidL c.said true c.owners).length := by
  have hs := h.st
  rw [h0] at hs
  unfold stOf at hs
  have hn := h.noend
  generalize r.ended = E at *
  generalize r.closed = C at *
  by_cases hy : c.owners.length / 2 + 1 ≤ (saidL c.said true c.owners).length
  · rw [if_pos hy] at hs; cases E <;> simp at hs
  · rw [if_neg hy] at hs
    cases E
    · cases C
      · exact ⟨rfl, rfl, hy⟩
      · simp at hs
    · exact absurd (hn rfl) hy
theorem pair_won {c : CM} {r : RC} (h : Pair c r) (h0 : c.state = 1) : r.ended = false ∧ c.owners.length / 2 + 1 ≤ (saidL c.said true c.owners).length := by
  have hs := h.st
  rw [h0] at hs
  unfold stOf at hs
  generalize r.ended = E at *
  generalize r.closed = C at *
  by_cases hy : c.owners.length / 2 + 1 ≤ (saidL c.said true c.owners).length
  · rw [if_pos hy] at hs; cases E
    · exact ⟨rfl, hy⟩
    · simp at hs
  · rw [if_neg hy] at hs; cases C <;> simp at hs <;> split at hs <;> simp at hs

theorem pair_start (d1 d2 receipt start term skew : Int) (l : List Int) (hnd : (dd l).Nodup) (hl : 1 ≤ (dd l).length) : Pair (newCM d1 d2 receipt l start term skew) ⟨d1, d2, receipt, start, term, skew, dd l, List.replicate (dd l).length false, List.replicate (dd l).length false, false, false⟩ := by
  have e : ∀ i, (List.replicate (dd l).length false).getD i false = false := fun i => by
    rw [List.getD_eq_getElem?_getD, List.getElem?_replicate]; split <;> rfl
  have m0 : ∀ x, mlook ([] : List (Int × Bool)) x = none := fun _ => rfl
  have s0 : ∀ z, saidL [] z (dd l) = [] := fun z => by
    unfold saidL
    refine List.filter_eq_nil_iff.2 fun x _ => ?_
    rw [m0]; simp
  refine ⟨rfl, rfl, rfl, rfl, hnd, fun i _ => by rw [e]; rfl, fun i _ h => by (dsimp only at h; rw [e] at h; cases h), ?_, fun h => by cases h⟩
  show (0 : Int) = stOf (dd l).length (saidL [] true (dd l)).length (saidL [] false (dd l)).length false false
  rw [s0, s0]; unfold stOf
  rw [if_neg (by simp)]
  simp; omega

theorem pair_counts {c : CM} {r : RC} (h : Pair c r) {i : Nat} (hi : i < c.owners.length) (h0 : c.state = 0) (ha : r.ans.getD i false = false) : c.counts (c.owners.getD i 0) = true := by
  have h1 := h.ans i hi
  rw [ha] at h1
  have hm : c.owners.getD i 0 ∈ c.owners := by simp [List.getD, hi]
  refine answer_true h0 hm ?_
  cases hk : mlook c.said (c.owners.getD i 0) with
  | none => rfl
  | some v => rw [hk] at h1; cases h1
theorem pair_countn {c : CM} {r : RC} (h : Pair c r) {node : Int} (hn : ∀ i, i < c.owners.length → ¬ (c.owners.getD i 0 = node ∧ r.ans.getD i false = false)) : c.counts node = false := by
  by_cases hm : node ∈ c.owners
  · obtain ⟨i, hi, e⟩ := List.getElem_of_mem hm
    have e' : c.owners.getD i 0 = node := by simp [List.getD, hi, e]
    have h1 := h.ans i hi
    have h2 := hn i hi
    rw [e'] at h1 h2
    cases hk : mlook c.said node with
    | none => rw [hk] at h1; exact absurd ⟨rfl, h1⟩ h2
    | some v => exact answer_false3 hk
  · exact answer_false2 hm

theorem getD_set_b (l : List Bool) (i j : Nat) (v : Bool) (hi : i < l.length) : (l.set i v).getD j false = if j = i then v else l.getD j false := by
  by_cases h : j = i
  · subst h; simp [List.getD, hi]
  · have h' : ¬ i = j := fun e => h e.symm
    simp [List.getD, h, h']
theorem pair_step {c : CM} {r : RC} (h : Pair c r) {i : Nat} (hi : i < c.owners.length) (h0 : c.state = 0) (ha : r.ans.getD i false = false) (hal : r.ans.length = r.owners.length) (hsl : r.said.length = r.owners.length) (y : Bool) :
    Pair (c.answer (c.owners.getD i 0) y) { r with ans := r.ans.set i true, said := r.said.set i y } := by
  have hc := pair_counts h hi h0 ha
  obtain ⟨he, hcl, hny⟩ := pair_open h h0
  have hio : i < r.owners.length := by rw [h.owners]; exact hi
  have ne : ∀ j, j < c.owners.length → j ≠ i → c.owners.getD j 0 ≠ c.owners.getD i 0 := fun j hj hji e => hji (by
    have e2 : c.owners[j] = c.owners[i] := by simpa [List.getD, hj, hi] using e
    exact (List.getElem_inj h.nd).1 e2)
  unfold CM.answer
  rw [hc]
  simp only [if_true]
  refine ⟨h.owners, h.start, h.term, h.skew, h.nd, fun j hj => ?_, fun j hj hja => ?_, ?_, fun hE => by (dsimp only at hE; rw [he] at hE; cases hE)⟩
  · show (r.ans.set i true).getD j false = (mlook (mput c.said (c.owners.getD i 0) y) (c.owners.getD j 0)).isSome
    rw [getD_set_b _ _ _ _ (by omega), mlook_mput]
    by_cases hj2 : j = i
    · subst hj2; simp
    · rw [if_neg hj2, if_neg (ne j hj hj2)]; exact h.ans j hj
  · show (r.said.set i y).getD j false = (mlook (mput c.said (c.owners.getD i 0) y) (c.owners.getD j 0) == some true)
    rw [getD_set_b _ _ _ _ (by omega), mlook_mput]
    have hja' : (r.ans.set i true).getD j false = true := hja
    rw [getD_set_b _ _ _ _ (by omega)] at hja'
    by_cases hj2 : j = i
    · subst hj2; rw [if_pos rfl, if_pos rfl]; cases y <;> rfl
    · rw [if_neg hj2] at hja'
      rw [if_neg hj2, if_neg (ne j hj hj2)]; exact h.said j hj hja'
  · show (c.count (c.owners.getD i 0) y).state = stOf c.owners.length (saidL (mput c.said (c.owners.getD i 0) y) true c.owners).length (saidL (mput c.said (c.owners.getD i 0) y) false c.owners).length r.ended r.closed
    unfold CM.count stOf
    dsimp only
    rw [he, hcl, h0]
    by_cases h1 : c.owners.length / 2 + 1 ≤ (saidL (mput c.said (c.owners.getD i 0) y) true c.owners).length
    · rw [if_pos h1, if_pos h1]; rfl
    · rw [if_neg h1, if_neg h1]
      by_cases h2 : c.owners.length - (saidL (mput c.said (c.owners.getD i 0) y) false c.owners).length < c.owners.length / 2 + 1
      · rw [if_pos h2, decide_eq_true h2]; rfl
      · rw [if_neg h2, decide_eq_false h2]; rfl
theorem pair_end1 {c : CM} {r : RC} (h : Pair c r) (h1 : c.state = 1) : Pair c.ended { r with ended := true } := by
  obtain ⟨_, hy⟩ := pair_won h h1
  unfold CM.ended
  rw [if_pos h1]
  refine ⟨h.owners, h.start, h.term, h.skew, h.nd, h.ans, h.said, ?_, fun _ => hy⟩
  show (3 : Int) = stOf c.owners.length (saidL c.said true c.owners).length (saidL c.said false c.owners).length true r.closed
  unfold stOf
  rw [if_pos hy]; rfl
theorem pair_end0 {c : CM} {r : RC} (h : Pair c r) (h0 : c.state = 0) : Pair c.ended { r with closed := true } := by
  obtain ⟨he, _, hy⟩ := pair_open h h0
  unfold CM.ended
  rw [if_neg (by omega), if_pos h0]
  refine ⟨h.owners, h.start, h.term, h.skew, h.nd, h.ans, h.said, ?_, h.noend⟩
  show (2 : Int) = stOf c.owners.length (saidL c.said true c.owners).length (saidL c.said false c.owners).length r.ended true
  unfold stOf
  rw [if_neg hy]; rfl
theorem pair_end2 {c : CM} {r : RC} (h : Pair c r) (h1 : c.state ≠ 1) (h0 : c.state ≠ 0) : Pair c.ended r := by
  unfold CM.ended
  rw [if_neg h1, if_neg h0]; exact h

/-- The document's claim in memory, told by the program's. -/
def RefC (w : World) (b ba bs : Nat) (vo : Value) (c : CM) : Prop := ∃ r, RCAt w b ba bs vo r ∧ Pair c r
theorem RefC.kept {S : Nat → Prop} {w w' : World} {b ba bs : Nat} {vo : Value} {c : CM} (h : RefC w b ba bs vo c) (hk : Kept S w w') (h1 : ¬ S b) (h2 : ¬ S ba) (h3 : ¬ S bs) (h4 : ∀ k, vo.rb = some k → ¬ S k) : RefC w' b ba bs vo c := by
  obtain ⟨r, h, hp⟩ := h; exact ⟨r, h.kept hk h1 h2 h3 h4, hp⟩
theorem RefC.pure {w w' : World} {b ba bs : Nat} {vo : Value} {c : CM} (h : RefC w b ba bs vo c) (hk : Pure w w') : RefC w' b ba bs vo c := by
  obtain ⟨r, h, hp⟩ := h; exact ⟨r, h.pure hk, hp⟩

theorem rstate_c (b ba bs : Nat) (vo : Value) (c : CM) (w : World) (h : RefC w b ba bs vo c) :
    Calls Try.prog 25 #[.pointer (some ⟨b, 0, none⟩)] w fun e w' => e = .returned (.int .i64 c.state) ∧ w = w' := by
  obtain ⟨r, h, hp⟩ := h
  have := rstate_any b ba bs vo r w h
  rw [pair_state hp] at this
  exact this

set_option maxHeartbeats 1000000 in
theorem rend_c (b ba bs : Nat) (vo : Value) (c : CM) (w : World) (h : RefC w b ba bs vo c) :
    Calls Try.prog 22 #[.pointer (some ⟨b, 0, none⟩)] w fun e w' => e = .returned (.tuple #[]) ∧ RefC w' b ba bs vo c.ended ∧ Kept (fun k => k = b ∨ k = ba ∨ k = bs) w w' := by
  have hs := hid (rstate_c b ba bs vo c w h)
  obtain ⟨r, h, hp⟩ := h
  have f9 : w.frozen? ⟨b, 9, none⟩ = false := free_of_block h.blk 9
  have f10 : w.frozen? ⟨b, 10, none⟩ = false := free_of_block h.blk 10
  have k9 : w.cell? ⟨b, 9, none⟩ = some (.bool r.ended) := cell_of_block h.blk 9
  have k10 : w.cell? ⟨b, 10, none⟩ = some (.bool r.closed) := cell_of_block h.blk 10
  have hk : ∀ i (u : Value), Kept (fun k => k = b ∨ k = ba ∨ k = bs) w (w.setCell ⟨b, i, none⟩ u) := fun i u => (kept_set w b i u).mono (fun k _ h => .inl h)
  have hkb : ∀ i (u : Value), Kept (fun k => k = b) w (w.setCell ⟨b, i, none⟩ u) := fun i u => kept_set w b i u
  have h9 : RCAt (w.setCell ⟨b, 9, none⟩ (.bool true)) b ba bs vo { r with ended := true } :=
    { h with
      blk := by have := block_setCell h.blk 9 (.bool true); simpa [RC.cells] using this
      own := h.own.kept (hkb _ _) (fun k hk e => h.sep (by rw [hk, e]))
      ans := ((hkb 9 (.bool true)).block ba (lt_of_block h.ans) (fun e => h.n1 e.symm)).trans h.ans
      said := ((hkb 9 (.bool true)).block bs (lt_of_block h.said) (fun e => h.n2 e.symm)).trans h.said }
  have h10 : RCAt (w.setCell ⟨b, 10, none⟩ (.bool true)) b ba bs vo { r with closed := true } :=
    { h with
      blk := by have := block_setCell h.blk 10 (.bool true); simpa [RC.cells] using this
      own := h.own.kept (hkb _ _) (fun k hk e => h.sep (by rw [hk, e]))
      ans := ((hkb 10 (.bool true)).block ba (lt_of_block h.ans) (fun e => h.n1 e.symm)).trans h.ans
      said := ((hkb 10 (.bool true)).block bs (lt_of_block h.said) (fun e => h.n2 e.symm)).trans h.said }
  have H := hid h
  have Hp := hid hp
  have Hk := hid hk
  have H9 := hid h9
  have H10 := hid h10
  clear h hp hk hkb h9 h10
  generalize r.ended = E at k9
  generalize r.closed = C at k10
  by_cases h1 : c.state = 1
  · have Hq := hid (pair_end1 Hp.out h1)
    rw [h1] at hs
    clear h1
    go_enter Try.func22, Try.ntmps22
    go_wp2_with (go_at_call 25; refine hs.out.mono ?_; rintro e w' ⟨rfl, rfl⟩)
    go_end0
    exact ⟨rfl, ⟨_, H9.out, Hq.out⟩, Hk.out _ _⟩
  · by_cases h0 : c.state = 0
    · have Hq := hid (pair_end0 Hp.out h0)
      rw [h0] at hs
      clear h1 h0
      go_enter Try.func22, Try.ntmps22
      go_wp2_with (go_at_call 25; refine hs.out.mono ?_; rintro e w' ⟨rfl, rfl⟩)
      go_end0
      exact ⟨rfl, ⟨_, H10.out, Hq.out⟩, Hk.out _ _⟩
    · have Hq := hid (pair_end2 Hp.out h1 h0)
      have e1 : (c.state == 1) = false := by simp [h1]
      have e0 : (c.state == 0) = false := by simp [h0]
      clear h1 h0
      generalize c.state = st at *
      go_enter Try.func22, Try.ntmps22
      go_wp2_with (go_at_call 25; refine hs.out.mono ?_; rintro e w' ⟨rfl, rfl⟩)
      go_end0
      exact ⟨rfl, ⟨_, H.out, Hq.out⟩, Kept.refl _ _⟩
end Go.Proofs.Ytffafdkjgllpcaa
