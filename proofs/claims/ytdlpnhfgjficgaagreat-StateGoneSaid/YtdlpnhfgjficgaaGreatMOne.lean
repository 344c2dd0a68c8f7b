/- law18's bags, as data. law18's one: a bag by a number. -/
import Derived.Test.YtdlpnhfgjficgaaGreatPut
namespace Go.Proofs.YtdlpnhfgjficgaaGreat
open Go.RowKit Go.Maps

end Go.Proofs.YtdlpnhfgjficgaaGreat

namespace Go.Proofs.YtdlpnhfgjficgaaGreat
open Go.RowKit Go.Maps

theorem agg3 {a b c x y z : Value} (h : Value.agg #[a, b, c] = .agg #[x, y, z]) : a = x ∧ b = y ∧ c = z := by simpa using h
theorem set3 {w : World} {b : Nat} {t0 t1 t2 : Value} {T : TypeId} (hb : w.heap[b]? = some (.cells #[t0, t1, t2] T (0, 0))) (v0 v1 v2 : Value) :
    (((w.setCell ⟨b, 0, none⟩ v0).setCell ⟨b, 1, none⟩ v1).setCell ⟨b, 2, none⟩ v2).heap[b]? = some (.cells #[v0, v1, v2] T (0, 0)) := by
  have := block_setCell (block_setCell (block_setCell hb 0 v0) 1 v1) 2 v2
  simpa using this
theorem kept3 (w : World) (b : Nat) (v0 v1 v2 : Value) : Kept (fun k => k = b) w (((w.setCell ⟨b, 0, none⟩ v0).setCell ⟨b, 1, none⟩ v1).setCell ⟨b, 2, none⟩ v2) :=
  have h1 : Kept (fun k => k = b) w (w.setCell ⟨b, 0, none⟩ v0) := Kept.setCell (S := fun k => k = b) (Kept.refl _ w) (p := ⟨b, 0, none⟩) (fun _ => rfl) v0
  have h2 : Kept (fun k => k = b) w ((w.setCell ⟨b, 0, none⟩ v0).setCell ⟨b, 1, none⟩ v1) := Kept.setCell (S := fun k => k = b) h1 (p := ⟨b, 1, none⟩) (fun _ => rfl) v1
  Kept.setCell (S := fun k => k = b) h2 (p := ⟨b, 2, none⟩) (fun _ => rfl) v2
end Go.Proofs.YtdlpnhfgjficgaaGreat

