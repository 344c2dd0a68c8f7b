import Derived.Test.YtffafdkjgllpcaaCountsC
import Derived.Deep.Grids
namespace Go.Proofs.Ytffafdkjgllpcaa
open Go.RowKit Go.Maps Go.ChangeShapes Go.WideShapes Go.Deep
/-! A row of bools that came in, read to its cells. -/
theorem bools_of_trod {H : Type} {enc : TypeId × Value → H} {W : World} {base : Nat} {held : Bool} {a : Option Addr} {len cap fuel : Nat} {x : DataW H × List MemPlace}
    (h : DataW.trod enc Try.prog W base (fun _ => true) held fuel 31 [.slice a len cap] = some x) : ∃ l, BoolsAt W a len cap l := by
  rcases open_bools Try.underlying31 Try.underlying4 (by kernel_rfl) h with ⟨hcs, _⟩ | ⟨ad, len', cap', B, hcs, _, hl, hm, _, hi⟩
  · simp at hcs
    obtain ⟨rfl, rfl, rfl⟩ := hcs
    exact ⟨[], rfl, Nat.le_refl _, Nat.zero_le _, fun k hk => absurd hk (Nat.not_lt_zero _)⟩
  · simp at hcs
    obtain ⟨rfl, rfl, rfl⟩ := hcs
    refine ⟨(List.range len).map B, by simp, hl, hm, fun k hk => ?_⟩
    have c0 := hi k (by omega)
    obtain ⟨b, off, spot⟩ := ad
    have hspot : spot = none := by simpa [Addr.add] using World.cell?_spot (hi 0 (by omega))
    subst hspot
    have e : ((List.range len).map B).getD k false = B k := by simp [List.getD, hk]
    rw [e]
    rw [Addr.add_lit] at c0
    exact ⟨b, off, rfl, World.block_lt_of_cell? W _ c0, c0⟩
end Go.Proofs.Ytffafdkjgllpcaa
