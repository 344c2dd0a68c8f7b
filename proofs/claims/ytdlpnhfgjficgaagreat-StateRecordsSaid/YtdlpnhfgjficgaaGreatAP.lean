/- Apply of records of queues, peers, promises. -/
import Derived.Test.YtdlpnhfgjficgaaGreatMBs
import Derived.Test.YtdlpnhfgjficgaaGreatMYy
import Derived.Test.YtdlpnhfgjficgaaGreatMTx
import Derived.Test.YtdlpnhfgjficgaaGreatMRg
import Derived.Test.YtdlpnhfgjficgaaGreatMVc
import Derived.Test.YtdlpnhfgjficgaaGreatMVv
import Derived.Test.YtdlpnhfgjficgaaGreatMJm
import Derived.Test.YtdlpnhfgjficgaaGreatMQa
import Derived.WalkMore
import Derived.IntWalk
import Derived.Deep.RegionHeld3
import Derived.Test.YtdlpnhfgjficgaaGreatMZa
namespace Go.Proofs.YtdlpnhfgjficgaaGreat
open Go.RowKit Go.Maps Go.Shelf

theorem SAt.set {n : Nat} {a u : Int} {r : List Value} {w : World} (h : SAt n a u r w) (j : Nat) (v : Value) : SAt n a u (r.set j v) (w.setCell ⟨n, j + 2, none⟩ v) := by
  unfold SAt
  have := block_setCell h (j + 2) v
  simpa using this
theorem SAt.at {n : Nat} {a u : Int} {r : List Value} {w : World} (h : SAt n a u r w) {j : Nat} {v : Value} (hv : r[j]? = some v) : w.cell? ⟨n, j + 2, none⟩ = some v ∧ w.frozen? ⟨n, j + 2, none⟩ = false := by
  refine ⟨?_, free_of_block h _⟩
  have := cell_of_block h (j + 2)
  simpa [hv] using this
theorem SRows.setTags {n : Nat} {r : List Value} {S : SD} {w : World} {v : Value} {l : List Tag} (h : SRows n r S w) (hv : Tags w v l) (hf : ∀ k, v.rb = some k → k ≠ n) : SRows n (r.set 48 v) { S with tags := l } w := by
  have hl := h.len
  have hne : ∀ j, j ≠ 48 → (r.set 48 v)[j]? = r[j]? := fun j hj => List.getElem?_set_ne (fun e => hj e.symm)
  refine ⟨by simpa using hl, fun p hp => ?_, ⟨v, by rw [List.getElem?_set_self (by omega)], hv, hf⟩, ?_, ?_⟩
  · rw [hne _ (by omega), hne _ (by omega), hne _ (by omega)]; exact h.bag p hp
  · rw [hne _ (by omega)]; exact h.view
  · rw [hne _ (by omega)]; exact h.holds
theorem SRows.setView {n : Nat} {r : List Value} {S : SD} {w : World} {v : Value} {l : List Pr} (h : SRows n r S w) (hv : Peers w v l) (hf : ∀ k, v.rb = some k → k ≠ n) : SRows n (r.set 49 v) { S with view := l } w := by
  have hl := h.len
  have hne : ∀ j, j ≠ 49 → (r.set 49 v)[j]? = r[j]? := fun j hj => List.getElem?_set_ne (fun e => hj e.symm)
  refine ⟨by simpa using hl, fun p hp => ?_, ?_, ⟨v, by rw [List.getElem?_set_self (by omega)], hv, hf⟩, ?_⟩
  · rw [hne _ (by omega), hne _ (by omega), hne _ (by omega)]; exact h.bag p hp
  · rw [hne _ (by omega)]; exact h.tags
  · rw [hne _ (by omega)]; exact h.holds
theorem SRows.setHolds {n : Nat} {r : List Value} {S : SD} {w : World} {v : Value} {l : List Hold} (h : SRows n r S w) (hv : Holds w v l) (hf : ∀ k, v.rb = some k → k ≠ n) : SRows n (r.set 50 v) { S with holds := l } w := by
  have hl := h.len
  have hne : ∀ j, j ≠ 50 → (r.set 50 v)[j]? = r[j]? := fun j hj => List.getElem?_set_ne (fun e => hj e.symm)
  refine ⟨by simpa using hl, fun p hp => ?_, ?_, ?_, ⟨v, by rw [List.getElem?_set_self (by omega)], hv, hf⟩⟩
  · rw [hne _ (by omega), hne _ (by omega), hne _ (by omega)]; exact h.bag p hp
  · rw [hne _ (by omega)]; exact h.tags
  · rw [hne _ (by omega)]; exact h.view
/-- A state in block n, of which no row lies in block m. -/
def St2 (n m : Nat) (S : SD) (w : World) : Prop := ∃ r, SAt n S.id S.up r w ∧ SRows n r S w ∧ SRows m r S w
theorem St2.pure {n m : Nat} {S : SD} {w w' : World} (h : St2 n m S w) (hp : Pure w w') : St2 n m S w' := by
  obtain ⟨r, h1, h2, h3⟩ := h; exact ⟨r, h1.pure hp, h2.pure hp, h3.pure hp⟩
theorem St2.st {n m : Nat} {S : SD} {w : World} (h : St2 n m S w) : St n S w := by obtain ⟨r, h1, h2, _⟩ := h; exact ⟨r, h1, h2⟩
theorem St2.lt {n m : Nat} {S : SD} {w : World} (h : St2 n m S w) : n < w.heap.size := h.st.lt
theorem St.two {n : Nat} {S : SD} {w : World} (h : St n S w) : St2 n n S w := by obtain ⟨r, h1, h2⟩ := h; exact ⟨r, h1, h2, h2⟩
/-- Block n alone is written, in which no row lies. -/
theorem SRows.kept2 {n m : Nat} {r : List Value} {S : SD} {w w' : World} (h2 : SRows m r S w) (h : SRows n r S w) (hk : Kept (fun k => k = n) w w') : SRows m r S w' := by
  refine ⟨h2.len, fun p hp' => ?_, ?_, ?_, ?_⟩
  · obtain ⟨v0, v1, v2, e0, e1, e2, hb, f⟩ := h2.bag p hp'
    obtain ⟨u0, u1, u2, d0, d1, d2, hb', g0, g1, g2⟩ := h.bag p hp'
    obtain rfl : u0 = v0 := by rw [e0] at d0; injection d0 with d; exact d.symm
    obtain rfl : u1 = v1 := by rw [e1] at d1; injection d1 with d; exact d.symm
    obtain rfl : u2 = v2 := by rw [e2] at d2; injection d2 with d; exact d.symm
    exact ⟨u0, u1, u2, e0, e1, e2, hb.kept hk g0 g1 g2, f⟩
  · obtain ⟨v, e, hr, f⟩ := h2.tags
    obtain ⟨u, d, _, g⟩ := h.tags
    obtain rfl : u = v := by rw [e] at d; injection d with d; exact d.symm
    exact ⟨u, e, Row.kept hr hk g, f⟩
  · obtain ⟨v, e, hr, f⟩ := h2.view
    obtain ⟨u, d, _, g⟩ := h.view
    obtain rfl : u = v := by rw [e] at d; injection d with d; exact d.symm
    exact ⟨u, e, Row.kept hr hk g, f⟩
  · obtain ⟨v, e, hr, f⟩ := h2.holds
    obtain ⟨u, d, _, g⟩ := h.holds
    obtain rfl : u = v := by rw [e] at d; injection d with d; exact d.symm
    exact ⟨u, e, Row.kept hr hk g, f⟩
/-- What 'read' leaves of a row: a closure over the row's box p and the state's box q. -/
structure RdR {α : Type} (f : α → List Value) (sz : Nat) (T : TypeId) (n b p q : Nat) (v : Value) (l : List α) (s : RS) (w0 w : World) : Prop where
  bp : w.heap[p]? = some (.cells #[v] T (0, 0))
  bq : w.heap[q]? = some (.cells #[.pointer (some ⟨n, 0, none⟩)] 24 (0, 0))
  r : RdAt 117 b s w
  k : Kept (fun k => k = b) w0 w
  row : GRow f sz w v l
  fr : ∀ k, v.rb = some k → w0.heap.size ≤ k
  pf : w0.heap.size ≤ p
  qf : w0.heap.size ≤ q
theorem RdR.pure {α : Type} {f : α → List Value} {sz : Nat} {T : TypeId} {n b p q : Nat} {v : Value} {l : List α} {s : RS} {w0 w w' : World} (h : RdR f sz T n b p q v l s w0 w) (hp : Pure w w') : RdR f sz T n b p q v l s w0 w' :=
  ⟨(hp.block _ (lt_of_block h.bp)).trans h.bp, (hp.block _ (lt_of_block h.bq)).trans h.bq, h.r.pure hp, h.k.trans hp.kept, Row.pure h.row hp, h.fr, h.pf, h.qf⟩
theorem pure_box {b : Nat} {w w1 w2 : World} (hp : Pure w w1) (hk : Kept (fun k => k = b) w1 w2) (hb : w.heap.size ≤ b) : Pure w w2 :=
  (Kept.trans (Pure.kept (S := fun k => k = b) hp) hk).below (Nat.le_refl _) (fun k hk e => by omega)
def apN (S : SD) (l : List UInt8) : SD × Int := if (rdTags (some l)).2 = some [] then ({ S with tags := tjoin S.tags (rdTags (some l)).1 }, 0) else (S, 10)
def apV (S : SD) (l : List UInt8) : SD × Int := if (rdView (some l)).2 = some [] then ({ S with view := vjoin S.view (rdView (some l)).1 }, 0) else (S, 10)
def apH (S : SD) (l : List UInt8) : SD × Int := if (rdHolds (some l)).2 = some [] then ({ S with holds := (rdHolds (some l)).1 }, 0) else (S, 10)
end Go.Proofs.YtdlpnhfgjficgaaGreat
