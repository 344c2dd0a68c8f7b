/- slices.Index, slices.Contains at []int. -/
import Derived.Test.YtofengnbedebpaaMath
import Derived.Test.YtofengnbedebpaaProg
import Derived.WalkSpells
import Derived.WalkLawsBesides
namespace Go.Proofs.Ytofengnbedebpaa
open Go.RowKit Go.Maps
theorem infoInt : (Try.prog.info? 3).map (fun i => (i.zero, i.size, i.bytes)) = some (some (.int .i64 0), 1, 8) := by kernel_rfl
theorem zeroBool (w : World) : (zeroValue 4).run Try.prog w = .ok (.bool false) w := by kernel_rfl
theorem zeroInt (w : World) : (zeroValue 3).run Try.prog w = .ok (.int .i64 0) w := by kernel_rfl

def idx (l : List Int) (x : Int) : Int := if x ∈ l then (l.idxOf x : Nat) else -1
theorem idx_take {l : List Int} {k : Nat} {x : Int} (h : k < l.length) (hn : x ∉ l.take k) (hx : l.getD k 0 = x) : idx l x = k := by
  have hm : x ∈ l := by rw [← hx]; simp [List.getD, h]
  unfold idx; rw [if_pos hm]
  have e : l.getD k 0 = l[k] := by simp [List.getD, h]
  rw [e] at hx
  congr 1
  have hs : l = l.take k ++ l[k] :: l.drop (k + 1) := by rw [← List.drop_eq_getElem_cons h, List.take_append_drop]
  rw [hs, List.idxOf_append, if_neg hn, hx]
  simp [List.length_take, Nat.min_eq_left (Nat.le_of_lt h)]
theorem notin_take {l : List Int} {k : Nat} {x : Int} (h : k < l.length) (hn : x ∉ l.take k) (hx : ¬ x = l.getD k 0) : x ∉ l.take (k + 1) := by
  rw [take_succ_get l k h]; simp only [List.mem_append, List.mem_singleton, not_or]; exact ⟨hn, hx⟩
theorem idx_none {l : List Int} {x : Int} (h : x ∉ l) : idx l x = -1 := by unfold idx; rw [if_neg h]
theorem idx_ge (l : List Int) (x : Int) : decide (0 ≤ idx l x) = decide (x ∈ l) := by
  unfold idx; split <;> simp_all
theorem idx_bd (l : List Int) (x : Int) : -1 ≤ idx l x ∧ idx l x ≤ l.length := by
  unfold idx; split
  · rename_i h; have := List.idxOf_lt_length_iff.2 h; omega
  · omega

set_option maxHeartbeats 400000 in
theorem index_any (v : Value) (l : List Int) (x : Int) (w : World) (hr : Ints w v l) :
    Calls Try.prog 54 #[v, .int .i64 x] w fun e w' => e = .returned (.int .i64 (idx l x)) ∧ w = w' := by
  obtain ⟨a, cap, rfl⟩ := hr.shape
  obtain ⟨_, h1, h2, hc⟩ := hr.cell
  unfold maxLen at h2
  go_enter Try.func54, Try.ntmps54
  go_wp2
  go_loop [8] (fun i => ∃ k : Nat, k ≤ l.length ∧ i = .int .i64 k ∧ x ∉ l.take k) (fun i => l.length - (RowKit.intOf i).toNat)
  case atStart => exact ⟨0, Nat.zero_le _, rfl, by simp⟩
  case round =>
    obtain ⟨k, hk, rfl, hn⟩ := hrel
    by_cases hlt : k < l.length
    · obtain ⟨b, off, rfl, hbw, hcell⟩ : ∃ b off, a = some ⟨b, off, none⟩ ∧ b < w.heap.size ∧ ∀ i, i < l.length → w.cell? ⟨b, off + i, none⟩ = some (.int .i64 (l.getD i 0)) := by
        rcases hc with ⟨h, _⟩ | h
        · rw [h] at hlt; exact absurd hlt (Nat.not_lt_zero _)
        · exact h
      have hcx := hcell k hlt
      by_cases he : x = l.getD k 0
      · have Hx := hid (idx_take hlt hn he.symm)
        have ht : (x == l.getD k 0) = true := by simpa using he
        clear hcell hc hn he
        generalize l.getD k 0 = y at *
        go_wp2
        go_ret
        exact ⟨ret_int Hx.out.symm, rfl⟩
      · have hn' := notin_take hlt hn he
        have Hn := hid hn'
        have ht : (x == l.getD k 0) = false := by simpa using he
        clear hcell hc hn he hn'
        generalize l.getD k 0 = y at *
        go_wp2
        go_round
        case rel => exact ⟨k + 1, by omega, by go_num, Hn.out⟩
        case measure => simp [RowKit.intOf]; omega
    · have Hx := hid (idx_none (l := l) (x := x) (by rw [List.take_of_length_le (by omega)] at hn; exact hn))
      clear hc hn
      go_wp2
      go_ret
      exact ⟨ret_int Hx.out.symm, rfl⟩

set_option maxHeartbeats 400000 in
theorem contains_any (v : Value) (l : List Int) (x : Int) (w : World) (hr : Ints w v l) :
    Calls Try.prog 33 #[v, .int .i64 x] w fun e w' => e = .returned (.bool (decide (x ∈ l))) ∧ w = w' := by
  have h := index_any v l x w hr
  rw [← idx_ge]
  go_enter Try.func33, Try.ntmps33
  go_wp2_with (go_at_call 54; refine h.mono ?_; rintro e w' ⟨rfl, rfl⟩)
  go_ret
  exact ⟨rfl, rfl⟩
end Go.Proofs.Ytofengnbedebpaa
