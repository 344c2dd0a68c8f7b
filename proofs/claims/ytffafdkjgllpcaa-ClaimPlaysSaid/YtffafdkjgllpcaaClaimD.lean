import Derived.Test.YtffafdkjgllpcaaClaimB
namespace Go.Proofs.Ytffafdkjgllpcaa
open Go.RowKit Go.Maps

/-- Those of l of whom m says yes. -/
def saidL (m : List (Int × Bool)) (yes : Bool) (l : List Int) : List Int := l.filter fun x => mlook m x == some yes
theorem saidL_take (m : List (Int × Bool)) (yes : Bool) (l : List Int) (k : Nat) (h : k < l.length) : saidL m yes (l.take (k + 1)) = if mlook m (l.getD k 0) = some yes then saidL m yes (l.take k) ++ [l.getD k 0] else saidL m yes (l.take k) := by
  rw [take_succ_get l k h]; unfold saidL; rw [List.filter_append]
  generalize l.getD k 0 = x
  by_cases h : mlook m x = some yes <;> simp [h]
theorem saidL_len (m : List (Int × Bool)) (yes : Bool) (l : List Int) : (saidL m yes l).length ≤ l.length := List.length_filter_le _ _

set_option maxHeartbeats 1000000 in
/-- The closure, at one owner. -/
theorem each_any (b bm bc by_ bo base : Nat) (vo v : Value) (c : CM) (yes : Bool) (acc : List Int) (node : Int) (w : World) (h : ClaimAt w b bm vo c) (hwf : (Lit.int .i64 node).wf = true)
    (hc : w.heap[bc]? = some (.cells #[.pointer (some ⟨b, 0, none⟩)] 24 (0, 0))) (hy : w.heap[by_]? = some (.cells #[.bool yes] 4 (0, 0))) (ho : w.heap[bo]? = some (.cells #[v] 22 (0, 0)))
    (hown : w.ownsRow base 3 1 v acc.length (acc.map (Value.int .i64))) (hb : base ≤ w.heap.size) (hob : bo < base) (hl : acc.length ≤ 1000000) :
    Calls Try.prog 38 #[.int .i64 node, .pointer (some ⟨bc, 0, none⟩), .pointer (some ⟨by_, 0, none⟩), .pointer (some ⟨bo, 0, none⟩)] w fun e w' =>
      e = .returned (.tuple #[]) ∧ ∃ v', w'.heap[bo]? = some (.cells #[v'] 22 (0, 0)) ∧ w'.ownsRow base 3 1 v' (if mlook c.said node = some yes then acc ++ [node] else acc).length ((if mlook c.said node = some yes then acc ++ [node] else acc).map (Value.int .i64)) ∧ Kept (fun k => k = bo ∨ base ≤ k) w w' := by
  obtain ⟨i0, hi, hz0, hz1, hz2⟩ := info_parts infoInt
  have k1 : w.cell? ⟨bc, 0, none⟩ = some (.pointer (some ⟨b, 0, none⟩)) := cell_of_block hc 0
  have k2 : w.cell? ⟨by_, 0, none⟩ = some (.bool yes) := cell_of_block hy 0
  have k3 : w.cell? ⟨bo, 0, none⟩ = some v := cell_of_block ho 0
  have k4 : w.frozen? ⟨bo, 0, none⟩ = false := free_of_block ho 0
  have k5 : w.cell? ⟨b, 7, none⟩ = some (.map (some bm)) := cell_of_block h.blk 7
  have hlook := h.map.look (P := Try.prog) Try.underlying3 Try.underlying50 (zeroBool _) node hwf true
  simp only [if_true] at hlook
  have Hown := hid hown
  have Ho := hid ho
  have hne : bo ≠ w.heap.size := by omega
  clear h hc hy ho hown
  by_cases hm : mlook c.said node = some yes
  · rw [hm] at hlook
    simp only [hm, if_true]
    simp only [Option.map_some, Option.getD_some, Option.isSome_some] at hlook
    have hyy : (yes == yes) = true := by simp
    clear hm
    go_enter Try.func38, Try.ntmps38
    go_wp2_with (at_builtin; refine wpList_append_own _ rfl _ _ 22 rfl base 3 i0 (.int .i64 0) 1 8 Try.underlying22 hi hz0 hz1 hz2 rfl (by decide) _ _ _ rfl (Hown.out.alloc _) ⟨w.heap.size, 0, none⟩ 1 1 [.int .i64 node] rfl rfl hnews_one ?c2 ?c3 ?c4 ?c5 ?_)
    case c2 => intro u hu; simp at hu; subst hu; rfl
    case c3 => unfold maxLen; omega
    case c4 => omega
    case c5 => simp; omega
    intro v2 w2 hown2 hg2 _
    obtain ⟨a2, cap2, rfl⟩ := (Row.of_own hown2).shape
    have hvb : v.ownBlock ≠ some bo := own_ne Hown.out hob
    have hbo : bo < w.heap.size := by omega
    have ho2 : w2.heap[bo]? = some (.cells #[v] 22 (0, 0)) := (hg2.block bo (by simp; omega) (fun e => hvb e.symm)).trans (block_alloc_old Ho.out _)
    have q1 : w2.cell? ⟨bo, 0, none⟩ = some v := cell_of_block ho2 0
    have q2 : w2.frozen? ⟨bo, 0, none⟩ = false := free_of_block ho2 0
    have Ho2 := hid ho2
    have Hown2 := hid hown2
    clear k1 k2 k3 k4 k5 hlook ho2 hown2
    go_wp2
    go_end0
    refine ⟨rfl, .slice a2 (acc.length + 1) cap2, ?_, ?_, ?_⟩
    · simpa using block_setCell Ho2.out 0 (.slice a2 (acc.length + 1) cap2)
    · exact ownsRow_snoc (ownsRow_setCell_below Hown2.out (by exact hob) _)
    · refine Kept.setCell ?_ (fun _ => .inl rfl) _
      exact ((Kept.refl _ _).alloc _).grown hg2 (fun k hk _ => .inr (Hown.out.lt k hk).1)
  · go_enter Try.func38, Try.ntmps38
    simp only [hm, if_false]
    cases hs : mlook c.said node with
    | none =>
      rw [hs] at hlook
      simp only [Option.map_none, Option.getD_none, Option.isSome_none] at hlook
      clear hs hm
      go_wp2
      go_end0
      exact ⟨rfl, v, Ho.out, Hown.out, Kept.refl _ _⟩
    | some s =>
      rw [hs] at hlook
      simp only [Option.map_some, Option.getD_some, Option.isSome_some] at hlook
      have hne : (s == yes) = false := by rw [hs] at hm; simpa using hm
      clear hs hm
      go_wp2
      go_end0
      exact ⟨rfl, v, Ho.out, Hown.out, Kept.refl _ _⟩
end Go.Proofs.Ytffafdkjgllpcaa
