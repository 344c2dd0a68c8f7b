/- sift: Nodes, Differ. sift: mark, Marks. -/
import Derived.Test.YtdlpnhfgjficgaaGreatMSa
import Derived.Test.YtdlpnhfgjficgaaGreatMEq
import Derived.WalkMore
import Derived.Test.YtdlpnhfgjficgaaGreatMBy
namespace Go.Proofs.YtdlpnhfgjficgaaGreat
open Go.RowKit Go.Maps Go.Shelf Go.Sort

section
variable {v0 v1 v2 u0 u1 u2 : Value} {g h : Bag} {U V : List Dot} {W : World}
end

end Go.Proofs.YtdlpnhfgjficgaaGreat

namespace Go.Proofs.YtdlpnhfgjficgaaGreat
open Go.RowKit Go.Maps Go.Shelf Go.Sort

/-- Rows of texts. -/
def svs (l : List (List UInt8)) : List Value := l.map fun s => .string (bs s)
def Strs (w : World) (v : Value) (l : List (List UInt8)) : Prop := Row w v l.length 1 (svs l)
theorem Strs.shape {w : World} {v : Value} {l : List (List UInt8)} (h : Strs w v l) : ∃ a cap, v = .slice a l.length cap := Row.shape h
theorem Strs.get {w : World} {a : Option Addr} {n cap : Nat} {l : List (List UInt8)} (h : Strs w (.slice a n cap) l) {k : Nat} (hk : k < l.length) :
    ∃ b off, a = some ⟨b, off, none⟩ ∧ b < w.heap.size ∧ w.cell? ⟨b, off + k, none⟩ = some (.string (bs (l.getD k []))) := by
  have e : n = l.length := by obtain ⟨a', c', e⟩ := h.shape; injection e
  subst e
  obtain ⟨b, off, e, hb, hc⟩ := Row.elem h hk
  refine ⟨b, off, e, hb, ?_⟩
  have := hc 0 (by omega)
  simp only [Nat.mul_one, Nat.add_zero] at this
  rw [this]
  simp [svs, List.getD, hk]
end Go.Proofs.YtdlpnhfgjficgaaGreat

