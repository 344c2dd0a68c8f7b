/- slices.Sort at []int, of a slice of the call's own: it holds the same numbers, rising. -/
import Derived.Test.YtdlpnhfgjficgaaGreatMPa
import Derived.Test.YtdlpnhfgjficgaaGreatShelf
import Derived.Sort.OwnSortedInts
namespace Go.Proofs.YtdlpnhfgjficgaaGreat
open Go.RowKit Go.Maps Go.Sort
def srt (l : List Int) : List Int := l.mergeSort fun x y => decide (x ≤ y)
theorem srt_len (l : List Int) : (srt l).length = l.length := by unfold srt; simp
theorem sort_own (base : Nat) (v : Value) (l : List Int) (w : World) (h : w.ownsRow base 3 1 v l.length (l.map (Value.int .i64))) (hl : l.length ≤ 1000000) :
    Calls Tryz.prog 220 #[v] w fun e w' => e = .returned (.tuple #[]) ∧ w'.ownsRow base 3 1 v (srt l).length ((srt l).map (Value.int .i64)) ∧ w.grownBy w' v.ownBlock := by
  obtain ⟨hlen, ⟨rfl, h0⟩ | ⟨g, cap, cur, rfl, hbase, hb, h1, h2, h3, h4⟩⟩ := h
  · obtain rfl : l = [] := List.eq_nil_of_length_eq_zero h0
    refine (Tryz.slices_Sort_int_none none 0 w).mono ?_
    rintro e w' ⟨rfl, rfl⟩
    have e0 : srt [] = [] := by simp [srt]
    rw [e0]
    exact ⟨rfl, World.ownsRow_nil _ _ _ _, World.grownBy.refl _ _⟩
  · rw [Nat.mul_one] at h4
    refine (Tryz.slices_Sort_int g 0 cap l w (holds_of_blockI hb h4) (lt_of_block hb) (by omega)).mono ?_
    rintro e w' ⟨rfl, n, os, rfl⟩
    refine ⟨rfl, ?_, grownBy_sortedI _⟩
    have := ownsRow_sortedI (ts := srt l) (n := n) (os := os) (srt_len l) hbase hb h1 h2 h3
    rw [srt_len]; exact this
end Go.Proofs.YtdlpnhfgjficgaaGreat
