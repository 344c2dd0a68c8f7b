/- What the rows of peers lean on, at this seat. Rows of peers: Clone; ids and Members; Suspect and Refute's changes; changed. view: ids (Members), changed (Suspect, Refute). view: changed; Suspect, Refute, Members. ref09: May, few, Later, Find, Members, Same. ref09: Members, Same. ref09: put. -/
import Derived.Test.YtdlpnhfgjficgaaGreatMBs
import Derived.Sort.Walk0
import Derived.Shelf.Abstract
import Derived.Deep.RegionHeld3
import Derived.Laws.OwnMore
import Derived.Test.YtdlpnhfgjficgaaGreatMDot
import Derived.Test.YtdlpnhfgjficgaaGreatMCtx
import Derived.Laws.StructEq
import Derived.Deep.RegionLawGrows
namespace Go.Proofs.YtdlpnhfgjficgaaGreat
end Go.Proofs.YtdlpnhfgjficgaaGreat

namespace Go.Proofs.YtdlpnhfgjficgaaGreat
open Go.RowKit Go.Maps

structure Pr where
  id : Int
  inc : Int
  st : Int
  deriving DecidableEq
def p0 : Pr := ⟨0, 0, 0⟩
def pcells (p : Pr) : List Value := [.int .i64 p.id, .int .i64 p.inc, .int .i64 p.st]
def pvs (l : List Pr) : List Value := l.flatMap pcells
def pv (p : Pr) : Value := .agg #[.int .i64 p.id, .int .i64 p.inc, .int .i64 p.st]
def Peers (w : World) (v : Value) (l : List Pr) : Prop := Row w v l.length 3 (pvs l)
theorem pvs_len (l : List Pr) : (pvs l).length = l.length * 3 := by
  induction l with
  | nil => rfl
  | cons d l ih => simp [pvs, pcells] at *; omega
theorem pvs_append (l k : List Pr) : pvs (l ++ k) = pvs l ++ pvs k := by simp [pvs]
theorem pvs_get : ∀ (l : List Pr) (k : Nat), k < l.length → ∀ j, j < 3 → (pvs l)[k * 3 + j]? = (pcells (l.getD k p0))[j]?
  | [], k, h, _, _ => absurd h (Nat.not_lt_zero _)
  | d :: l, 0, _, j, hj => by
    have e : pvs (d :: l) = pcells d ++ pvs l := rfl
    rw [e, List.getElem?_append_left (by simp [pcells]; omega)]
    simp [List.getD]
  | d :: l, k + 1, h, j, hj => by
    have ih := pvs_get l k (by simpa using h) j hj
    have e : pvs (d :: l) = pcells d ++ pvs l := rfl
    have hl : (pcells d).length = 3 := rfl
    rw [e, List.getElem?_append_right (by rw [hl]; omega), hl, show (k + 1) * 3 + j - 3 = k * 3 + j by omega, ih]
    simp [List.getD]
theorem pvs_one (l : List Pr) : ∀ u ∈ pvs l, u.oneCell' = true := by
  intro u hu
  simp only [pvs, List.mem_flatMap, pcells] at hu
  obtain ⟨d, _, hd⟩ := hu
  simp at hd
  rcases hd with rfl | rfl | rfl <;> rfl
theorem Peers.shape {w : World} {v : Value} {l : List Pr} (h : Peers w v l) : ∃ a cap, v = .slice a l.length cap := Row.shape h
theorem Peers.get {w : World} {a : Option Addr} {n cap : Nat} {l : List Pr} (h : Peers w (.slice a n cap) l) {k : Nat} (hk : k < l.length) :
    ∃ b off, a = some ⟨b, off, none⟩ ∧ b < w.heap.size ∧ w.cell? ⟨b, off + k * 3, none⟩ = some (.int .i64 (l.getD k p0).id) ∧ w.cell? ⟨b, off + k * 3 + 1, none⟩ = some (.int .i64 (l.getD k p0).inc) ∧ w.cell? ⟨b, off + k * 3 + 2, none⟩ = some (.int .i64 (l.getD k p0).st) := by
  have e : n = l.length := by obtain ⟨a', c', e⟩ := h.shape; injection e
  subst e
  obtain ⟨b, off, e, hb, hc⟩ := Row.elem h hk
  have g := pvs_get l k hk
  exact ⟨b, off, e, hb, (hc 0 (by omega)).trans (g 0 (by omega)), (hc 1 (by omega)).trans (g 1 (by omega)), (hc 2 (by omega)).trans (g 2 (by omega))⟩
theorem take_succ_p (l : List Pr) (k : Nat) (h : k < l.length) : l.take (k + 1) = l.take k ++ [l.getD k p0] := by
  rw [List.take_succ_eq_append_getElem h]; simp [List.getD, h]
theorem mem_get_p {l : List Pr} {k : Nat} (h : k < l.length) : l.getD k p0 ∈ l := by simp [List.getD, h]
theorem infoPeer : (Tryz.prog.info? 92).map (fun i => (i.zero, i.size, i.bytes)) = some (some (.agg #[.int .i64 0, .int .i64 0, .int .i64 0]), 3, 24) := by kernel_rfl

/-- Members. -/
def mem (l : List Pr) : List Int := (l.filter fun p => decide (p.st ≠ 2)).map (·.id)
end Go.Proofs.YtdlpnhfgjficgaaGreat

namespace Go.Proofs.YtdlpnhfgjficgaaGreat
open Go.RowKit Go.Maps

theorem own_shape_p {w : World} {base e size : Nat} {v : Value} {n : Nat} {xs : List Value} (h : w.ownsRow base e size v n xs) : ∃ a cap, v = .slice a n cap := (Row.of_own h).shape
end Go.Proofs.YtdlpnhfgjficgaaGreat

namespace Go.Proofs.YtdlpnhfgjficgaaGreat
open Go.RowKit Go.Maps Go.Sort Go.Shelf

end Go.Proofs.YtdlpnhfgjficgaaGreat

namespace Go.Proofs.YtdlpnhfgjficgaaGreat
open Go.RowKit Go.Maps

def later (a b : Pr) : Pr := if a.st = 2 then (if b.st = 2 then (if b.inc < a.inc ∨ a.inc = b.inc ∧ b.st ≤ a.st then a else b) else a) else (if b.st = 2 then b else (if b.inc < a.inc ∨ a.inc = b.inc ∧ b.st ≤ a.st then a else b))
end Go.Proofs.YtdlpnhfgjficgaaGreat

namespace Go.Proofs.YtdlpnhfgjficgaaGreat
open Go.RowKit Go.Maps

end Go.Proofs.YtdlpnhfgjficgaaGreat

namespace Go.Proofs.YtdlpnhfgjficgaaGreat
open Go.RowKit Go.Maps

theorem peer_lit (w : World) (p : Pr) : ∀ j u, (pcells p)[j]? = some u → (w.alloc (.cells #[.int .i64 p.id, .int .i64 p.inc, .int .i64 p.st] 92)).cell? ((⟨w.heap.size, 0, none⟩ : Addr).add j) = some u := by
  intro j u hj
  rw [Addr.add_lit, Nat.zero_add, World.cell?_alloc_new]
  simpa [pcells] using hj
theorem pcells_one (p : Pr) : ∀ u ∈ pcells p, u.oneCell' = true := by
  intro u hu
  simp [pcells] at hu
  rcases hu with rfl | rfl | rfl <;> rfl
theorem pvs_snoc (l : List Pr) (p : Pr) : pvs (l ++ [p]) = pvs l ++ pcells p := by rw [pvs_append]; simp [pvs]

end Go.Proofs.YtdlpnhfgjficgaaGreat

