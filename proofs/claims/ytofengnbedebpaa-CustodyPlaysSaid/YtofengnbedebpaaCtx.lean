/- ref04: base, Bytes, Nodes. -/
import Derived.Test.YtofengnbedebpaaDot5
namespace Go.Proofs.Ytofengnbedebpaa
open Go.RowKit Go.Maps

def cbase (l : List Dot) (node : Int) : Int := ((l.find? fun d => d.1 == node).map (·.2)).getD 0
theorem cbase_hit {l : List Dot} {k : Nat} {node : Int} (h : k < l.length) (hn : ∀ d ∈ l.take k, d.1 ≠ node) (hx : (l.getD k (0, 0)).1 = node) : cbase l node = (l.getD k (0, 0)).2 := by
  have e : l = l.take k ++ l.getD k (0, 0) :: l.drop (k + 1) := by
    have h1 : l.getD k (0, 0) = l[k] := by simp [List.getD, h]
    rw [h1, List.getElem_cons_drop, List.take_append_drop]
  unfold cbase
  have : l.find? (fun d => d.1 == node) = some (l.getD k (0, 0)) := by
    refine (congrArg _ e).trans ?_
    rw [List.find?_append, List.find?_eq_none.2 (fun d hd => by simpa using hn d hd)]
    rw [List.find?_cons_of_pos (by exact beq_iff_eq.2 hx)]; rfl
  rw [this]; rfl
theorem cbase_none {l : List Dot} {node : Int} (hn : ∀ d ∈ l, d.1 ≠ node) : cbase l node = 0 := by
  unfold cbase
  rw [List.find?_eq_none.2 (fun d hd => by simpa using hn d hd)]; rfl

set_option maxHeartbeats 1000000 in
theorem rbase_any (vb vc : Value) (l : List Dot) (node : Int) (w : World) (hr : Dots w vb l) :
    Calls Try.prog 62 #[.agg #[vb, vc], .int .i64 node] w fun r w' => r = .returned (.int .i64 (cbase l node)) ∧ Pure w w' := by
  obtain ⟨a, cap, rfl⟩ := hr.shape
  have hll : l.length ≤ maxLen := Row.len_le hr
  unfold maxLen at hll
  have Hr := hid hr
  have hp := hid (show ∀ o, Pure w (w.alloc o) from fun o => (Below.refl _ _).alloc (Nat.le_refl _) o)
  clear hr
  go_enter Try.func62, Try.ntmps62
  go_wp2
  go_loop [5] (fun i => ∃ k : Nat, k ≤ l.length ∧ i = .int .i64 k ∧ ∀ d ∈ l.take k, d.1 ≠ node) (fun i => l.length - (RowKit.intOf i).toNat)
  case atStart => exact ⟨0, Nat.zero_le _, rfl, by simp⟩
  case round =>
    obtain ⟨k, hk, rfl, hno⟩ := hrel
    by_cases hlt : k < l.length
    · obtain ⟨b, off, rfl, hb, c0, c1⟩ := Dots.get (show Dots (w.alloc (.cells #[.slice a l.length cap, vc] 29)) (.slice a l.length cap) l from Row.pure Hr.out (hp.out _)) hlt
      have hlt' : (k : Int) < (l.length : Int) := by omega
      have Hstep : Hid ((l.getD k (0, 0)).1 ≠ node → ∀ d ∈ l.take (k + 1), d.1 ≠ node) := fun h d hd => by
        rw [take_succ_d l k hlt, List.mem_append, List.mem_singleton] at hd
        rcases hd with hd | rfl
        · exact hno d hd
        · exact h
      have Hhit := hid (cbase_hit hlt hno)
      clear hno
      generalize l.getD k (0, 0) = z at *
      obtain ⟨z1, z2⟩ := z
      dsimp only at c0 c1
      by_cases he : z1 = node
      · subst he
        have Hx := hid (Hhit.out rfl)
        go_wp2
        go_ret
        exact ⟨ret_int Hx.out.symm, hp.out _⟩
      · have he' : (z1 == node) = false := by simp [he]
        have Hs := hid (Hstep.out he)
        go_wp2
        go_round
        case rel => exact ⟨k + 1, by omega, by go_num, Hs.out⟩
        case measure => simp [RowKit.intOf]; omega
    · have hlt' : ¬ (k : Int) < (l.length : Int) := by omega
      rw [List.take_of_length_le (by omega)] at hno
      have Hx := hid (cbase_none hno)
      clear hno
      go_wp2
      go_ret
      exact ⟨ret_int Hx.out.symm, hp.out _⟩
end Go.Proofs.Ytofengnbedebpaa
