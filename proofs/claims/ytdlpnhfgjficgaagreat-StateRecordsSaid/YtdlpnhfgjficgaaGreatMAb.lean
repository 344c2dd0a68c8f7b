/- Apply of a record of a bag. Apply of whatever bytes. -/
import Derived.Test.YtdlpnhfgjficgaaGreatMBs
import Derived.Test.YtdlpnhfgjficgaaGreatAP
import Derived.Test.YtdlpnhfgjficgaaGreatMRy
import Derived.Test.YtdlpnhfgjficgaaGreatMX6
import Derived.Test.YtdlpnhfgjficgaaGreatMYy
namespace Go.Proofs.YtdlpnhfgjficgaaGreat
open Go.RowKit Go.Maps Go.Shelf

theorem SAt.at2 {n : Nat} {a u : Int} {r : List Value} {w : World} (h : SAt n a u r w) {j j' : Nat} {v : Value} (hv : r[j]? = some v) (e : j' = j + 2) : w.cell? ⟨n, j', none⟩ = some v ∧ w.frozen? ⟨n, j', none⟩ = false := by
  subst e; exact h.at hv
theorem SAt.set2 {n : Nat} {a u : Int} {r : List Value} {w : World} (h : SAt n a u r w) (j : Nat) {j' : Nat} (e : j' = j + 2) (v : Value) : SAt n a u (r.set j v) (w.setCell ⟨n, j', none⟩ v) := by
  subst e; exact h.set j v
theorem set3_getD {b : List Bag} {p q : Nat} {g : Bag} (hb : b.length = 16) (hp : p < 16) : (b.set p g).getD q nb = if q = p then g else b.getD q nb := by
  rw [List.getD_eq_getElem?_getD, List.getD_eq_getElem?_getD]
  by_cases h : q = p
  · subst h; rw [if_pos rfl, List.getElem?_set_self (by omega)]; rfl
  · rw [if_neg h, List.getElem?_set_ne (fun e => h e.symm)]
theorem SRows.setBag {n : Nat} {r : List Value} {S : SD} {w : World} {p : Nat} {v0 v1 v2 : Value} {g : Bag} (h : SRows n r S w) (hp : p < 16) (hb : S.bags.length = 16) (hv : BR3 v0 v1 v2 g w) (f0 : ∀ k, v0.rb = some k → k ≠ n) (f1 : ∀ k, v1.rb = some k → k ≠ n) (f2 : ∀ k, v2.rb = some k → k ≠ n) :
    SRows n (((r.set (p * 3) v0).set (p * 3 + 1) v1).set (p * 3 + 2) v2) { S with bags := S.bags.set p g } w := by
  have hl := h.len
  have hne : ∀ j, j ≠ p * 3 → j ≠ p * 3 + 1 → j ≠ p * 3 + 2 → (((r.set (p * 3) v0).set (p * 3 + 1) v1).set (p * 3 + 2) v2)[j]? = r[j]? := fun j h0 h1 h2 => by
    rw [List.getElem?_set_ne (fun e => h2 e.symm), List.getElem?_set_ne (fun e => h1 e.symm), List.getElem?_set_ne (fun e => h0 e.symm)]
  refine ⟨by simpa using hl, fun q hq => ?_, ?_, ?_, ?_⟩
  · show ∃ u0 u1 u2, _ ∧ _ ∧ _ ∧ BR3 u0 u1 u2 ((S.bags.set p g).getD q nb) w ∧ _
    rw [set3_getD hb hp]
    by_cases e : q = p
    · subst e
      rw [if_pos rfl]
      refine ⟨v0, v1, v2, ?_, ?_, ?_, hv, f0, f1, f2⟩
      · rw [List.getElem?_set_ne (by omega), List.getElem?_set_ne (by omega), List.getElem?_set_self (by omega)]
      · rw [List.getElem?_set_ne (by omega), List.getElem?_set_self (by simp; omega)]
      · rw [List.getElem?_set_self (by simp; omega)]
    · rw [if_neg e, hne _ (by omega) (by omega) (by omega), hne _ (by omega) (by omega) (by omega), hne _ (by omega) (by omega) (by omega)]
      exact h.bag q hq
  · rw [hne _ (by omega) (by omega) (by omega)]; exact h.tags
  · rw [hne _ (by omega) (by omega) (by omega)]; exact h.view
  · rw [hne _ (by omega) (by omega) (by omega)]; exact h.holds
/-- What 'read' leaves of a bag: a closure over the part's box p1, the bag's box p2, the state's box q. -/
structure RdB (n b p1 p2 q : Nat) (k : Nat) (v0 v1 v2 : Value) (g : Bag) (s : RS) (w0 w : World) : Prop where
  b1 : w.heap[p1]? = some (.cells #[.int .i64 (k : Nat)] 3 (0, 0))
  b2 : w.heap[p2]? = some (.cells #[v0, v1, v2] 34 (0, 0))
  bq : w.heap[q]? = some (.cells #[.pointer (some ⟨n, 0, none⟩)] 24 (0, 0))
  r : RdAt 117 b s w
  k : Kept (fun k => k = b) w0 w
  row : BR3 v0 v1 v2 g w
  fr : BFr w0.heap.size v0 v1 v2
  pf : w0.heap.size ≤ p1
  pf2 : w0.heap.size ≤ p2
  qf : w0.heap.size ≤ q
theorem RdB.pure {n b p1 p2 q k : Nat} {v0 v1 v2 : Value} {g : Bag} {s : RS} {w0 w w' : World} (h : RdB n b p1 p2 q k v0 v1 v2 g s w0 w) (hp : Pure w w') : RdB n b p1 p2 q k v0 v1 v2 g s w0 w' :=
  ⟨(hp.block _ (lt_of_block h.b1)).trans h.b1, (hp.block _ (lt_of_block h.b2)).trans h.b2, (hp.block _ (lt_of_block h.bq)).trans h.bq, h.r.pure hp, h.k.trans hp.kept, h.row.pure hp, h.fr, h.pf, h.pf2, h.qf⟩
/-- A part and its bag, read. -/
def rdJ (l : List UInt8) : Nat × Bag × RS := ((rdInt 15 (some l)).1.toNat, rdBag (rdInt 15 (some l)).2)
end Go.Proofs.YtdlpnhfgjficgaaGreat

namespace Go.Proofs.YtdlpnhfgjficgaaGreat
open Go.RowKit Go.Maps Go.Shelf

theorem rdJ_bd (l : List UInt8) : (rdJ l).1 < 16 := by
  have := (rdInt_bd 15 (some l)).1
  have := (rdInt_bd 15 (some l)).2 (by decide)
  show (rdInt 15 (some l)).1.toNat < 16
  omega
def apB (S : SD) (l : List UInt8) : SD × Int := if (rdJ l).2.2 = some [] then ({ S with bags := S.bags.set (rdJ l).1 (bjoin (S.bags.getD (rdJ l).1 nb) (rdJ l).2.1) }, 0) else (S, 10)
/-- A record, applied: what the state is then, and the answer. -/
def appl (S : SD) (t : List UInt8) : SD × Int := match t with
  | [] => (S, 10)
  | c :: l => if c = 73 then ({ S with id := (apI S.id l).1 }, (apI S.id l).2) else if c = 82 then ({ S with up := (apR S.up l).1 }, (apR S.up l).2) else if c = 66 then apB S l else if c = 78 then apN S l else if c = 86 then apV S l else if c = 72 then apH S l else (S, 10)
/-- How large a bag a record brings. -/
def bsz (t : List UInt8) : Bag := match t with
  | [] => nb
  | c :: l => if c = 66 then (rdJ l).2.1 else nb
end Go.Proofs.YtdlpnhfgjficgaaGreat

