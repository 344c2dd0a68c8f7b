/- A row of bools that came in. -/
import Derived.Test.YtcjggofcmjpfnaaGreatMMs
import Derived.OpenShut
import Derived.Deep.Slices
import Derived.Deep.Fields
import Derived.ChangeSame
import Derived.Deep.Grids
namespace Go.Proofs.YtcjggofcmjpfnaaGreat
open Go.RowKit Go.Maps Go.ChangeShapes Go.WideShapes Go.Deep

structure BoolsAt (w : World) (a : Option Addr) (n cap : Nat) (l : List Bool) : Prop where
  len : l.length = n
  le : n ≤ cap
  cap_le : cap ≤ maxLen
  cell : ∀ k, k < n → ∃ b off, a = some ⟨b, off, none⟩ ∧ b < w.heap.size ∧ w.cell? ⟨b, off + k, none⟩ = some (.bool (l.getD k false))
theorem bools_of_trod {H : Type} {enc : TypeId × Value → H} {W : World} {base : Nat} {held : Bool} {a : Option Addr} {len cap fuel : Nat} {x : DataW H × List MemPlace}
    (h : DataW.trod enc Tryz.prog W base (fun _ => true) held fuel 23 [.slice a len cap] = some x) : ∃ l, BoolsAt W a len cap l := by
  rcases open_bools Tryz.underlying23 Tryz.underlying4 (by kernel_rfl) h with ⟨hcs, _⟩ | ⟨ad, len', cap', B, hcs, _, hl, hm, _, hi⟩
  · simp at hcs
    obtain ⟨rfl, rfl, rfl⟩ := hcs
    exact ⟨[], rfl, Nat.le_refl _, Nat.zero_le _, fun k hk => absurd hk (Nat.not_lt_zero _)⟩
  · simp at hcs
    obtain ⟨rfl, rfl, rfl⟩ := hcs
    refine ⟨(List.range len).map B, by simp, hl, hm, fun k hk => ?_⟩
    have c0 := hi k (by omega)
    obtain ⟨b, off, spot⟩ := ad
    have hspot : spot = none := by simpa [Addr.add] using World.cell?_spot (hi 0 (by omega))
    subst hspot
    have e : ((List.range len).map B).getD k false = B k := by simp [List.getD, hk]
    rw [e]
    rw [Addr.add_lit] at c0
    exact ⟨b, off, rfl, World.block_lt_of_cell? W _ c0, c0⟩
theorem BoolsAt.pure {w w' : World} {a : Option Addr} {n cap : Nat} {l : List Bool} (h : BoolsAt w a n cap l) (hp : Pure w w') : BoolsAt w' a n cap l :=
  ⟨h.len, h.le, h.cap_le, fun k hk => by
    obtain ⟨b, off, e, hb, hc⟩ := h.cell k hk
    exact ⟨b, off, e, Nat.lt_of_lt_of_le hb hp.size, (hp.cell (p := ⟨b, off + k, none⟩) hb).trans hc⟩⟩
end Go.Proofs.YtcjggofcmjpfnaaGreat
