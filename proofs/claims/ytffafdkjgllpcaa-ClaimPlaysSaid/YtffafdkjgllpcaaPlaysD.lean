/- ref16's Answer and Valid, told by the program's claim. -/
import Derived.Test.YtffafdkjgllpcaaPlaysC
namespace Go.Proofs.Ytffafdkjgllpcaa
open Go.RowKit Go.Maps

theorem rc_set {w : World} {b ba bs : Nat} {vo : Value} {r : RC} (h : RCAt w b ba bs vo r) {i : Nat} (y : Bool) :
    RCAt ((w.setCell ⟨ba, i, none⟩ (.bool true)).setCell ⟨bs, i, none⟩ (.bool y)) b ba bs vo { r with ans := r.ans.set i true, said := r.said.set i y } := by
  have k1 := kept_set w ba i (.bool true)
  have k2 := kept_set (w.setCell ⟨ba, i, none⟩ (.bool true)) bs i (.bool y)
  have sz : (w.setCell ⟨ba, i, none⟩ (.bool true)).heap.size = w.heap.size := by simp
  have own1 := h.own.kept k1 (fun k hk e => h.sepa (by rw [hk, e]))
  refine ⟨?_, own1.kept k2 (fun k hk e => h.seps (by rw [hk, e])), ?_, ?_, by simpa using h.alen, by simpa using h.slen, h.olen, h.sep, h.sepa, h.seps, h.n1, h.n2, h.n3⟩
  · rw [k2.block b (by rw [sz]; exact lt_of_block h.blk) h.n2, k1.block b (lt_of_block h.blk) h.n1]; exact h.blk
  · rw [k2.block ba (by rw [sz]; exact lt_of_block h.ans) h.n3]
    have := block_setCell h.ans i (.bool true)
    rw [this]; simp [List.map_set]
  · have h2 : (w.setCell ⟨ba, i, none⟩ (.bool true)).heap[bs]? = some (.cells (r.said.map Value.bool).toArray 4 (0, 0)) := (k1.block bs (lt_of_block h.said) (fun e => h.n3 e.symm)).trans h.said
    have := block_setCell h2 i (.bool y)
    rw [this]; simp [List.map_set]
theorem rc_kept {w : World} {b ba bs i : Nat} (y : Bool) : Kept (fun k => k = b ∨ k = ba ∨ k = bs) w ((w.setCell ⟨ba, i, none⟩ (.bool true)).setCell ⟨bs, i, none⟩ (.bool y)) :=
  ((kept_set w ba i (.bool true)).mono (fun k _ h => .inr (.inl h))).trans ((kept_set (w.setCell ⟨ba, i, none⟩ (.bool true)) bs i (.bool y)).mono (fun k _ h => .inr (.inr h)))

theorem none_step {l : List Int} {A : List Bool} {node : Int} {k : Nat} (h : ∀ i, i < k → ¬ (l.getD i 0 = node ∧ A.getD i false = false)) (hk : ¬ (l.getD k 0 = node ∧ A.getD k false = false)) : ∀ i, i < k + 1 → ¬ (l.getD i 0 = node ∧ A.getD i false = false) := fun i hi => by
  by_cases e : i = k
  · subst e; exact hk
  · exact h i (by omega)

set_option maxHeartbeats 1000000 in
theorem ransw_c (b ba bs : Nat) (vo : Value) (c : CM) (node : Int) (yes : Bool) (w : World) (h : RefC w b ba bs vo c) :
    Calls Try.prog 23 #[.pointer (some ⟨b, 0, none⟩), .int .i64 node, .bool yes] w fun e w' => e = .returned (.bool (c.counts node)) ∧ RefC w' b ba bs vo (c.answer node yes) ∧ Kept (fun k => k = b ∨ k = ba ∨ k = bs) w w' := by
  have hs := hid (rstate_c b ba bs vo c w h)
  by_cases h0 : c.state = 0
  · obtain ⟨r, h, hp⟩ := h
    have c6 : w.cell? ⟨b, 6, none⟩ = some vo := cell_of_block h.blk 6
    have c7 : w.cell? ⟨b, 7, none⟩ = some (.slice (some ⟨ba, 0, none⟩) r.owners.length r.owners.length) := cell_of_block h.blk 7
    have c8 : w.cell? ⟨b, 8, none⟩ = some (.slice (some ⟨bs, 0, none⟩) r.owners.length r.owners.length) := cell_of_block h.blk 8
    have ha : Hid (∀ i, i < r.owners.length → w.cell? ⟨ba, i, none⟩ = some (.bool (r.ans.getD i false)) ∧ w.frozen? ⟨ba, i, none⟩ = false) := fun i hi => ⟨bool_cell h.ans (by rw [h.alen]; exact hi), free_of_block h.ans i⟩
    have hsd : Hid (∀ i, i < r.owners.length → w.cell? ⟨bs, i, none⟩ = some (.bool (r.said.getD i false)) ∧ w.frozen? ⟨bs, i, none⟩ = false) := fun i hi => ⟨bool_cell h.said (by rw [h.slen]; exact hi), free_of_block h.said i⟩
    obtain ⟨a, cap, rfl⟩ := h.own.shape
    have hl := h.olen
    have Hh := hid h
    have Hp := hid hp
    have hn1 : b ≠ ba := h.n1
    have hn2 : b ≠ bs := h.n2
    have hn3 : ba ≠ bs := h.n3
    have Hown := hid h.own
    have H0 := hid h0
    rw [h0] at hs
    clear h hp h0
    generalize hKe : r.owners.length = K at *
    have HK := hid hKe
    clear hKe
    go_enter Try.func23, Try.ntmps23
    go_wp2_with (go_at_call 25; refine hs.out.mono ?_; rintro e w' ⟨rfl, rfl⟩)
    go_loop [7] (fun i => ∃ k : Nat, k ≤ K ∧ i = .int .i64 k ∧ ∀ i, i < k → ¬ (r.owners.getD i 0 = node ∧ r.ans.getD i false = false)) (fun i => K - (RowKit.intOf i).toNat)
    case atStart => exact ⟨0, Nat.zero_le _, rfl, fun i hi => absurd hi (Nat.not_lt_zero _)⟩
    case round =>
      obtain ⟨k, hk, rfl, hno⟩ := hrel
      by_cases hlt : k < K
      · obtain ⟨k1, fr1⟩ := ha.out k hlt
        obtain ⟨k2, fr2⟩ := hsd.out k hlt
        obtain ⟨bo, oo, rfl, hx⟩ := ints_get Hown.out (show k < r.owners.length by rw [HK.out]; exact hlt)
        have hlt' : (k : Int) < (K : Int) := by omega
        have Hst := hid (@none_step r.owners r.ans node k hno)
        by_cases hxn : r.owners.getD k 0 = node
        · have hb : (r.owners.getD k 0 == node) = true := by rw [hxn]; exact beq_self_eq_true _
          have Hxn := hid hxn
          clear hno hxn
          generalize hae : r.ans.getD k false = A at *
          have Hae := hid hae
          clear hae
          cases A with
          | true =>
            have Hn := hid (Hst.out (fun h => by cases h.2))
            generalize r.owners.getD k 0 = x at *
            go_wp2
            go_round
            case rel => exact ⟨k + 1, by omega, by go_num, Hn.out⟩
            case measure => simp [RowKit.intOf]; omega
          | false =>
            have hi : k < c.owners.length := by rw [← Hp.out.owners, HK.out]; exact hlt
            have hxc : c.owners.getD k 0 = node := by rw [← Hp.out.owners]; exact Hxn.out
            have hq := pair_step Hp.out hi H0.out Hae.out Hh.out.alen Hh.out.slen yes
            have hqc := pair_counts Hp.out hi H0.out Hae.out
            rw [hxc] at hq hqc
            have Hq := hid hq
            have Hqc := hid hqc
            have Hset := hid (rc_set (i := k) Hh.out yes)
            clear hq hqc hxc hi
            generalize r.owners.getD k 0 = x at *
            go_wp2
            go_ret
            exact ⟨ret_bool Hqc.out.symm, ⟨_, Hset.out, Hq.out⟩, rc_kept yes⟩
        · have hb : (r.owners.getD k 0 == node) = false := beq_eq_false_iff_ne.2 hxn
          have Hn := hid (Hst.out (fun h => hxn h.1))
          clear hno hxn
          generalize r.owners.getD k 0 = x at *
          go_wp2
          go_round
          case rel => exact ⟨k + 1, by omega, by go_num, Hn.out⟩
          case measure => simp [RowKit.intOf]; omega
      · obtain rfl : k = K := by omega
        have hcn := hid (pair_countn Hp.out (node := node) (fun i hi => by rw [← Hp.out.owners] at hi ⊢; rw [HK.out] at hi; exact hno i hi))
        clear hno
        go_wp2
        go_ret
        refine ⟨ret_bool hcn.out.symm, ?_, Kept.refl _ _⟩
        unfold CM.answer
        rw [hcn.out]
        exact ⟨_, Hh.out, Hp.out⟩
  · have e0 : (c.state != 0) = true := by simp [h0]
    have hcn := hid (answer_false1 (node := node) h0)
    have Hh := hid h
    clear h h0
    generalize c.state = st at *
    go_enter Try.func23, Try.ntmps23
    go_wp2_with (go_at_call 25; refine hs.out.mono ?_; rintro e w' ⟨rfl, rfl⟩)
    go_ret
    refine ⟨ret_bool hcn.out.symm, ?_, Kept.refl _ _⟩
    unfold CM.answer
    rw [hcn.out]
    exact Hh.out

set_option maxHeartbeats 1000000 in
theorem rvalid_c (b ba bs : Nat) (vo : Value) (c : CM) (now : Int) (w : World) (h : RefC w b ba bs vo c) (hb : c.Bd) :
    Calls Try.prog 27 #[.pointer (some ⟨b, 0, none⟩), .int .i64 now] w fun e w' => e = .returned (.bool (decide (c.state = 1) && decide (now < c.start + c.term - 2 * c.skew))) ∧ ∃ n, w' = w.drewN n := by
  have hs := hid (fun n => (rstate_c b ba bs vo c (w.drewN n) (h.pure (pure_drewN _ _))).mono (R' := fun e w' => e = .returned (.int .i64 c.state) ∧ ∃ m, w' = (w.drewN n).drewN m) fun _ _ ⟨h1, h2⟩ => ⟨h1, 0, h2.symm⟩)
  obtain ⟨r, h, hp⟩ := h
  have c3 : w.cell? ⟨b, 3, none⟩ = some (.int .i64 c.start) := by rw [← hp.start]; exact cell_of_block h.blk 3
  have c4 : w.cell? ⟨b, 4, none⟩ = some (.int .i64 c.term) := by rw [← hp.term]; exact cell_of_block h.blk 4
  have c5 : w.cell? ⟨b, 5, none⟩ = some (.int .i64 c.skew) := by rw [← hp.skew]; exact cell_of_block h.blk 5
  have hwrap0 := IntWalk.i64_in (c.start + c.term) (by have := hb.s0; have := hb.s1; have := hb.t0; have := hb.t1; omega)
  have hwrap1 := IntWalk.i64_in (2 * c.skew) (by have := hb.k0; have := hb.k1; omega)
  have hwrap := IntWalk.i64_in (c.start + c.term - 2 * c.skew) (by have := hb.s0; have := hb.s1; have := hb.t0; have := hb.t1; have := hb.k0; have := hb.k1; omega)
  clear h hp hb
  by_cases h1 : c.state = 1
  · rw [h1] at hs
    simp only [h1, decide_true, Bool.true_and]
    clear h1
    generalize c.start = st at *
    generalize c.term = te at *
    generalize c.skew = sk at *
    go_enter Try.func27, Try.ntmps27
    go_wp2_with fail
    go_quiet ((go_at_call 25; exact Calls.quiet_of (hs.out _)))
    go_wp2
    go_ret
    exact ⟨rfl, _, rfl⟩
  · have e1 : (c.state == 1) = false := by simp [h1]
    simp only [h1, decide_false, Bool.false_and]
    clear h1
    generalize c.start = st at *
    generalize c.term = te at *
    generalize c.skew = sk at *
    generalize c.state = s at *
    go_enter Try.func27, Try.ntmps27
    go_wp2_with fail
    go_quiet ((go_at_call 25; exact Calls.quiet_of (hs.out _)))
    go_wp2
    go_ret
    exact ⟨rfl, _, rfl⟩
end Go.Proofs.Ytffafdkjgllpcaa
