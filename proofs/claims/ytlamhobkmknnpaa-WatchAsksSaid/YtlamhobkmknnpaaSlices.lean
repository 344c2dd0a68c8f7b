/- slices.Index, slices.Contains, slices.Clone at []int. -/
import Derived.Test.YtlamhobkmknnpaaMath
import Derived.Test.YtlamhobkmknnpaaProg
import Derived.WalkSpells
import Derived.WalkLawsBesides
namespace Go.Proofs.Ytlamhobkmknnpaa
open Go.RowKit Go.Maps
theorem infoInt : (Try.prog.info? 3).map (fun i => (i.zero, i.size, i.bytes)) = some (some (.int .i64 0), 1, 8) := by kernel_rfl
theorem zeroBool (w : World) : (zeroValue 4).run Try.prog w = .ok (.bool false) w := by kernel_rfl
theorem zeroInt (w : World) : (zeroValue 3).run Try.prog w = .ok (.int .i64 0) w := by kernel_rfl

def idx (l : List Int) (x : Int) : Int := if x ∈ l then (l.idxOf x : Nat) else -1
theorem idx_take {l : List Int} {k : Nat} {x : Int} (h : k < l.length) (hn : x ∉ l.take k) (hx : l.getD k 0 = x) : idx l x = k := by
  have hm : x ∈ l := by rw [← hx]; simp [List.getD, h]
  unfold idx; rw [if_pos hm]
  have e : l.getD k 0 = l[k] := by simp [List.getD, h]
  rw [e] at hx
  congr 1
  have hs : l = l.take k ++ l[k] :: l.drop (k + 1) := by rw [← List.drop_eq_getElem_cons h, List.take_append_drop]
  rw [hs, List.idxOf_append, if_neg hn, hx]
  simp [List.length_take, Nat.min_eq_left (Nat.le_of_lt h)]
theorem notin_take {l : List Int} {k : Nat} {x : Int} (h : k < l.length) (hn : x ∉ l.take k) (hx : ¬ x = l.getD k 0) : x ∉ l.take (k + 1) := by
  rw [take_succ_get l k h]; simp only [List.mem_append, List.mem_singleton, not_or]; exact ⟨hn, hx⟩
theorem idx_none {l : List Int} {x : Int} (h : x ∉ l) : idx l x = -1 := by unfold idx; rw [if_neg h]
theorem idx_ge (l : List Int) (x : Int) : decide (0 ≤ idx l x) = decide (x ∈ l) := by
  unfold idx; split <;> simp_all
theorem idx_bd (l : List Int) (x : Int) : -1 ≤ idx l x ∧ idx l x ≤ l.length := by
  unfold idx; split
  · rename_i h; have := List.idxOf_lt_length_iff.2 h; omega
  · omega

set_option maxHeartbeats 400000 in
theorem index_any (v : Value) (l : List Int) (x : Int) (w : World) (hr : Ints w v l) :
    Calls Try.prog 50 #[v, .int .i64 x] w fun e w' => e = .returned (.int .i64 (idx l x)) ∧ w = w' := by
  obtain ⟨a, cap, rfl⟩ := hr.shape
  obtain ⟨_, h1, h2, hc⟩ := hr.cell
  unfold maxLen at h2
  go_enter Try.func50, Try.ntmps50
  go_wp2
  go_loop [8] (fun i => ∃ k : Nat, k ≤ l.length ∧ i = .int .i64 k ∧ x ∉ l.take k) (fun i => l.length - (RowKit.intOf i).toNat)
  case atStart => exact ⟨0, Nat.zero_le _, rfl, by simp⟩
  case round =>
    obtain ⟨k, hk, rfl, hn⟩ := hrel
    by_cases hlt : k < l.length
    · obtain ⟨b, off, rfl, hbw, hcell⟩ : ∃ b off, a = some ⟨b, off, none⟩ ∧ b < w.heap.size ∧ ∀ i, i < l.length → w.cell? ⟨b, off + i, none⟩ = some (.int .i64 (l.getD i 0)) := by
        rcases hc with ⟨h, _⟩ | h
        · rw [h] at hlt; exact absurd hlt (Nat.not_lt_zero _)
        · exact h
      have hcx := hcell k hlt
      by_cases he : x = l.getD k 0
      · have Hx := hid (idx_take hlt hn he.symm)
        have ht : (x == l.getD k 0) = true := by simpa using he
        clear hcell hc hn he
        generalize l.getD k 0 = y at *
        go_wp2
        go_ret
        exact ⟨ret_int Hx.out.symm, rfl⟩
      · have hn' := notin_take hlt hn he
        have Hn := hid hn'
        have ht : (x == l.getD k 0) = false := by simpa using he
        clear hcell hc hn he hn'
        generalize l.getD k 0 = y at *
        go_wp2
        go_round
        case rel => exact ⟨k + 1, by omega, by go_num, Hn.out⟩
        case measure => simp [RowKit.intOf]; omega
    · have Hx := hid (idx_none (l := l) (x := x) (by rw [List.take_of_length_le (by omega)] at hn; exact hn))
      clear hc hn
      go_wp2
      go_ret
      exact ⟨ret_int Hx.out.symm, rfl⟩

set_option maxHeartbeats 400000 in
theorem contains_any (v : Value) (l : List Int) (x : Int) (w : World) (hr : Ints w v l) :
    Calls Try.prog 40 #[v, .int .i64 x] w fun e w' => e = .returned (.bool (decide (x ∈ l))) ∧ w = w' := by
  have h := index_any v l x w hr
  rw [← idx_ge]
  go_enter Try.func40, Try.ntmps40
  go_wp2_with (go_at_call 50; refine h.mono ?_; rintro e w' ⟨rfl, rfl⟩)
  go_ret
  exact ⟨rfl, rfl⟩

set_option maxHeartbeats 400000 in
theorem clone_any (v : Value) (l : List Int) (w : World) (hr : Ints w v l) (hl : l.length ≤ 1000000) :
    Calls Try.prog 31 #[v] w fun e w' => ∃ v', e = .returned v' ∧ w'.ownsRow w.heap.size 3 1 v' l.length (l.map (Value.int .i64)) ∧ Pure w w' := by
  obtain ⟨a, cap, rfl⟩ := hr.shape
  obtain ⟨_, h1, h2, hc⟩ := hr.cell
  unfold maxLen at h2
  obtain ⟨i0, hi, hz0, hz1, hz2⟩ := info_parts infoInt
  cases a with
  | none =>
    obtain ⟨rfl, rfl⟩ : l = [] ∧ cap = 0 := by
      rcases hc with h | ⟨b, off, h, _⟩
      · exact h
      · cases h
    have he := Lib.run_eql_slice_nil (P := Try.prog) w 23 3 none 0 0 0 0 Try.underlying23
    simp only [Option.isNone_none] at he
    go_enter Try.func31, Try.ntmps31
    go_wp2
    go_ret
    exact ⟨_, rfl, World.ownsRow_nil _ _ _ _, Below.refl _ _⟩
  | some x =>
    have he := Lib.run_eql_slice_nil (P := Try.prog) w 23 3 (some x) l.length cap 0 0 Try.underlying23
    simp only [Option.isNone_some] at he
    go_enter Try.func31, Try.ntmps31
    have hnews : ∀ j u, (l.map (Value.int .i64))[j]? = some u → (w.alloc (.cells #[] 3)).cell? (x.add j) = some u := by
      intro j u hj
      have hjl : j < l.length := by have := (List.getElem?_eq_some_iff.1 hj).1; simpa using this
      obtain ⟨b, off, e, hbw, hcell⟩ : ∃ b off, some x = some ⟨b, off, none⟩ ∧ b < w.heap.size ∧ ∀ i, i < l.length → w.cell? ⟨b, off + i, none⟩ = some (.int .i64 (l.getD i 0)) := by
        rcases hc with ⟨h, _⟩ | h
        · rw [h] at hjl; exact absurd hjl (Nat.not_lt_zero _)
        · exact h
      cases e
      rw [Addr.add_lit, World.cell?_alloc_lt _ _ _ hbw, hcell j hjl]
      simpa [List.getD, hjl] using hj
    have Hn := hid hnews
    clear hnews hc hr
    go_wp2_with (at_builtin; refine wpList_append_own _ rfl _ _ 23 rfl w.heap.size 3 i0 (.int .i64 0) 1 8 Try.underlying23 hi hz0 hz1 hz2 rfl (by decide) _ 0 [] rfl (World.ownsRow_made w #[] 0 (Nat.le_refl _) (Nat.zero_le _) rfl) x l.length cap (l.map (Value.int .i64)) rfl (by simp) Hn.out ?c2 ?c3 ?c4 ?c5 ?_)
    case c2 => intro _ _; rfl
    case c3 => unfold maxLen; omega
    case c4 => omega
    intro v' w2 hown2 hg2 _
    have hown3 : w2.ownsRow w.heap.size 3 1 v' l.length (l.map (Value.int .i64)) := by simpa using hown2
    go_wp2
    go_ret
    exact ⟨_, rfl, hown3, ((Below.refl _ _).alloc (Nat.le_refl _) _).grown hg2 (by simp) (fun j hj => by simp [Value.ownBlock] at hj; omega)⟩
end Go.Proofs.Ytlamhobkmknnpaa
