import Derived.Test.YtffafdkjgllpcaaClaimE
import Derived.Deep.RegionHeld3
namespace Go.Proofs.Ytffafdkjgllpcaa
open Go.RowKit Go.Maps

/-- What an answer makes of what was said, once it counts. -/
def CM.count (c : CM) (node : Int) (yes : Bool) : CM :=
  let s := mput c.said node yes
  { c with said := s, state := if c.owners.length / 2 + 1 ≤ (saidL s true c.owners).length then 1 else if c.owners.length - (saidL s false c.owners).length < c.owners.length / 2 + 1 then 2 else c.state }
def CM.counts (c : CM) (node : Int) : Bool := decide (c.state = 0) && decide (node ∈ c.owners) && (mlook c.said node).isNone
def CM.answer (c : CM) (node : Int) (yes : Bool) : CM := if c.counts node then c.count node yes else c

theorem answer_false1 {c : CM} {node : Int} (h : c.state ≠ 0) : c.counts node = false := by simp [CM.counts, h]
theorem answer_false2 {c : CM} {node : Int} (h : node ∉ c.owners) : c.counts node = false := by simp [CM.counts, h]
theorem answer_false3 {c : CM} {node : Int} {s : Bool} (h : mlook c.said node = some s) : c.counts node = false := by simp [CM.counts, h]
theorem answer_true {c : CM} {node : Int} (h1 : c.state = 0) (h2 : node ∈ c.owners) (h3 : mlook c.said node = none) : c.counts node = true := by simp [CM.counts, h1, h2, h3]

set_option maxHeartbeats 1000000 in
theorem answer_no (b bm : Nat) (vo : Value) (c : CM) (node : Int) (yes : Bool) (w : World) (h : ClaimAt w b bm vo c) (hwf : (Lit.int .i64 node).wf = true) (hno : c.counts node = false) :
    Calls Try.prog 10 #[.pointer (some ⟨b, 0, none⟩), .int .i64 node, .bool yes] w fun e w' => e = .returned (.bool false) ∧ w = w' := by
  have hst := state_yes b bm vo c w h
  have hcon := contains_any vo c.owners node w h.own
  have k3 : w.cell? ⟨b, 3, none⟩ = some vo := cell_of_block h.blk 3
  have k7 : w.cell? ⟨b, 7, none⟩ = some (.map (some bm)) := cell_of_block h.blk 7
  have hlook := h.map.look (P := Try.prog) Try.underlying3 Try.underlying50 (zeroBool _) node hwf true
  simp only [if_true] at hlook
  obtain ⟨a, cap, rfl⟩ := h.own.shape
  have Hst := hid hst
  have Hcon := hid hcon
  clear h hst hcon
  by_cases h1 : c.state = 0
  · have hs : (c.state != 0) = false := by simp [h1]
    by_cases h2 : node ∈ c.owners
    · have hd : decide (node ∈ c.owners) = true := by simp [h2]
      obtain ⟨s, h3⟩ : ∃ s, mlook c.said node = some s := by
        cases hm : mlook c.said node with
        | none => rw [answer_true h1 h2 hm] at hno; cases hno
        | some s => exact ⟨s, rfl⟩
      rw [h3] at hlook
      simp only [Option.map_some, Option.getD_some, Option.isSome_some] at hlook
      generalize hcs : c.state = st at *
      generalize decide (node ∈ c.owners) = dd at *
      subst hd
      clear h2 h3 hno hcs h1
      go_enter Try.func10, Try.ntmps10
      go_wp2_with (first
        | (go_at_call 11; refine Hst.out.mono ?_; rintro e w' ⟨rfl, rfl⟩)
        | (go_at_call 30; refine Hcon.out.mono ?_; rintro e w' ⟨rfl, rfl⟩))
      go_ret
      exact ⟨rfl, rfl⟩
    · have hd : decide (node ∈ c.owners) = false := by simp [h2]
      generalize hcs : c.state = st at *
      generalize decide (node ∈ c.owners) = dd at *
      subst hd
      clear h2 hno hcs h1
      go_enter Try.func10, Try.ntmps10
      go_wp2_with (first
        | (go_at_call 11; refine Hst.out.mono ?_; rintro e w' ⟨rfl, rfl⟩)
        | (go_at_call 30; refine Hcon.out.mono ?_; rintro e w' ⟨rfl, rfl⟩))
      go_ret
      exact ⟨rfl, rfl⟩
  · have hs : (c.state != 0) = true := by simp [h1]
    generalize hcs : c.state = st at *
    clear hno hcs h1
    go_enter Try.func10, Try.ntmps10
    go_wp2_with (go_at_call 11; refine Hst.out.mono ?_; rintro e w' ⟨rfl, rfl⟩)
    go_ret
    exact ⟨rfl, rfl⟩

theorem ClaimAt.put {w w1 : World} {b bm : Nat} {vo : Value} {c : CM} (h : ClaimAt w b bm vo c) {s : List (Int × Bool)} (hm : IMap Value.bool w1 bm s) (hg : w.grownBy w1 (some bm)) : ClaimAt w1 b bm vo { c with said := s } := by
  have hb := lt_of_block h.blk
  have hne := h.ne
  have hlt : ∀ k, vo.rb = some k → k < w.heap.size := Row.lt h.own
  refine ⟨(hg.block b hb (fun e => hne (by simpa using e))).trans h.blk, ?_, h.sep, h.sepm, hm⟩
  exact Row.kept h.own (S := fun k => k = bm) ((Kept.refl _ _).grown hg (fun k e _ => by simpa using e.symm)) (fun k hk e => h.sepm (by rw [hk, e]))

theorem kept_set (w : World) (b i : Nat) (v : Value) : Kept (fun k => k = b) w (w.setCell ⟨b, i, none⟩ v) := Kept.setCell (S := fun k => k = b) (Kept.refl _ w) (p := ⟨b, i, none⟩) (fun _ => rfl) v

theorem ClaimAt.setState {w : World} {b bm : Nat} {vo : Value} {c : CM} (h : ClaimAt w b bm vo c) (n : Int) : ClaimAt (w.setCell ⟨b, 8, none⟩ (.int .i64 n)) b bm vo { c with state := n } := by
  have hne := h.ne
  refine ⟨?_, ?_, h.sep, h.sepm, ?_⟩
  · have := block_setCell h.blk 8 (.int .i64 n); exact this
  · exact Row.kept h.own (S := fun k => k = b) (kept_set _ _ _ _) (fun k hk e => h.sep (by rw [hk, e]))
  · exact h.map.kept (S := fun k => k = b) (kept_set _ _ _ _) (fun e => hne e.symm)

theorem mlook_mput {α : Type} (m : List (Int × α)) (k j : Int) (v : α) : mlook (mput m k v) j = if j = k then some v else mlook m j := by
  induction m with
  | nil =>
    unfold mput mlook
    by_cases h : j = k
    · subst h; simp
    · have : (k == j) = false := by simpa using fun e => h e.symm
      simp [this, h]
  | cons p r ih =>
    obtain ⟨k0, v0⟩ := p
    unfold mput
    by_cases h0 : k0 = k
    · subst h0
      by_cases h : j = k0
      · subst h; simp [mlook]
      · have h1 : (k0 == j) = false := by simpa using fun e => h e.symm
        simp [mlook, h1, h]
    · have h0' : (k0 == k) = false := by simpa using h0
      simp only [h0', Bool.false_eq_true, if_false]
      by_cases hj : k0 = j
      · subst hj
        simp [mlook, h0]
      · have h1 : (k0 == j) = false := by simpa using hj
        unfold mlook at ih ⊢
        rw [List.find?_cons_of_neg (by simpa using hj), List.find?_cons_of_neg (by simpa using hj)]
        exact ih
end Go.Proofs.Ytffafdkjgllpcaa
