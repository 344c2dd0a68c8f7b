/- Apply of a record of a bag. Apply of whatever bytes. -/
import Derived.Test.YtdlpnhfgjficgaaGreatMBs
import Derived.Test.YtdlpnhfgjficgaaGreatMAp
import Derived.Test.YtdlpnhfgjficgaaGreatMRy
import Derived.Test.YtdlpnhfgjficgaaGreatJQ
import Derived.Test.YtdlpnhfgjficgaaGreatMYy
namespace Go.Proofs.YtdlpnhfgjficgaaGreat
open Go.RowKit Go.Maps Go.Shelf

theorem SAt.at2 {n : Nat} {a u : Int} {r : List Value} {w : World} (h : SAt n a u r w) {j j' : Nat} {v : Value} (hv : r[j]? = some v) (e : j' = j + 2) : w.cell? ⟨n, j', none⟩ = some v ∧ w.frozen? ⟨n, j', none⟩ = false := by
  subst e; exact h.at hv
theorem SAt.set2 {n : Nat} {a u : Int} {r : List Value} {w : World} (h : SAt n a u r w) (j : Nat) {j' : Nat} (e : j' = j + 2) (v : Value) : SAt n a u (r.set j v) (w.setCell ⟨n, j', none⟩ v) := by
  subst e; exact h.set j v
theorem set3_getD {b : List Bag} {p q : Nat} {g : Bag} (hb : b.length = 16) (hp : p < 16) : (b.set p g).getD q nb = if q = p then g else b.getD q nb := by
  rw [List.getD_eq_getElem?_getD, List.getD_eq_getElem?_getD]
  by_cases h : q = p
  · subst h; rw [if_pos rfl, List.getElem?_set_self (by omega)]; rfl
  · rw [if_neg h, List.getElem?_set_ne (fun e => h e.symm)]
theorem SRows.setBag {n : Nat} {r : List Value} {S : SD} {w : World} {p : Nat} {v0 v1 v2 : Value} {g : Bag} (h : SRows n r S w) (hp : p < 16) (hb : S.bags.length = 16) (hv : BR3 v0 v1 v2 g w) (f0 : ∀ k, v0.rb = some k → k ≠ n) (f1 : ∀ k, v1.rb = some k → k ≠ n) (f2 : ∀ k, v2.rb = some k → k ≠ n) :
    SRows n (((r.set (p * 3) v0).set (p * 3 + 1) v1).set (p * 3 + 2) v2) { S with bags := S.bags.set p g } w := by
  have hl := h.len
  have hne : ∀ j, j ≠ p * 3 → j ≠ p * 3 + 1 → j ≠ p * 3 + 2 → (((r.set (p * 3) v0).set (p * 3 + 1) v1).set (p * 3 + 2) v2)[j]? = r[j]? := fun j h0 h1 h2 => by
    rw [List.getElem?_set_ne (fun e => h2 e.symm), List.getElem?_set_ne (fun e => h1 e.symm), List.getElem?_set_ne (fun e => h0 e.symm)]
  refine ⟨by simpa using hl, fun q hq => ?_, ?_, ?_, ?_⟩
  · show ∃ u0 u1 u2, _ ∧ _ ∧ _ ∧ BR3 u0 u1 u2 ((S.bags.set p g).getD q nb) w ∧ _
    rw [set3_getD hb hp]
    by_cases e : q = p
    · subst e
      rw [if_pos rfl]
      refine ⟨v0, v1, v2, ?_, ?_, ?_, hv, f0, f1, f2⟩
      · rw [List.getElem?_set_ne (by omega), List.getElem?_set_ne (by omega), List.getElem?_set_self (by omega)]
      · rw [List.getElem?_set_ne (by omega), List.getElem?_set_self (by simp; omega)]
      · rw [List.getElem?_set_self (by simp; omega)]
    · rw [if_neg e, hne _ (by omega) (by omega) (by omega), hne _ (by omega) (by omega) (by omega), hne _ (by omega) (by omega) (by omega)]
      exact h.bag q hq
  · rw [hne _ (by omega) (by omega) (by omega)]; exact h.tags
  · rw [hne _ (by omega) (by omega) (by omega)]; exact h.view
  · rw [hne _ (by omega) (by omega) (by omega)]; exact h.holds
/-- What 'read' leaves of a bag: a closure over the part's box p1, the bag's box p2, the state's box q. -/
structure RdB (n b p1 p2 q : Nat) (k : Nat) (v0 v1 v2 : Value) (g : Bag) (s : RS) (w0 w : World) : Prop where
  b1 : w.heap[p1]? = some (.cells #[.int .i64 (k : Nat)] 3 (0, 0))
  b2 : w.heap[p2]? = some (.cells #[v0, v1, v2] 34 (0, 0))
  bq : w.heap[q]? = some (.cells #[.pointer (some ⟨n, 0, none⟩)] 24 (0, 0))
  r : RdAt 117 b s w
  k : Kept (fun k => k = b) w0 w
  row : BR3 v0 v1 v2 g w
  fr : BFr w0.heap.size v0 v1 v2
  pf : w0.heap.size ≤ p1
  pf2 : w0.heap.size ≤ p2
  qf : w0.heap.size ≤ q
theorem RdB.pure {n b p1 p2 q k : Nat} {v0 v1 v2 : Value} {g : Bag} {s : RS} {w0 w w' : World} (h : RdB n b p1 p2 q k v0 v1 v2 g s w0 w) (hp : Pure w w') : RdB n b p1 p2 q k v0 v1 v2 g s w0 w' :=
  ⟨(hp.block _ (lt_of_block h.b1)).trans h.b1, (hp.block _ (lt_of_block h.b2)).trans h.b2, (hp.block _ (lt_of_block h.bq)).trans h.bq, h.r.pure hp, h.k.trans hp.kept, h.row.pure hp, h.fr, h.pf, h.pf2, h.qf⟩
/-- A part and its bag, read. -/
def rdJ (l : List UInt8) : Nat × Bag × RS := ((rdInt 15 (some l)).1.toNat, rdBag (rdInt 15 (some l)).2)
set_option maxRecDepth 8000 in
set_option maxHeartbeats 4000000 in
theorem sread_B (n b : Nat) (l : List UInt8) (w : World) (h : RdAt 117 b (some l) w) :
    Calls Tryz.prog 45 #[.pointer (some ⟨n, 0, none⟩), .string ⟨#[66]⟩, .pointer (some ⟨b, 0, none⟩)] w fun e w' => ∃ p1 p2 q v0 v1 v2, e = .returned (.func (.func 90) #[] #[.pointer (some ⟨q, 0, none⟩), .pointer (some ⟨p1, 0, none⟩), .pointer (some ⟨p2, 0, none⟩)]) ∧ RdB n b p1 p2 q (rdJ l).1 v0 v1 v2 (rdJ l).2.1 (rdJ l).2.2 w w' := by
  have hlt := h.lt
  obtain ⟨W1, hW1⟩ : ∃ W, W = w.alloc (.cells #[.pointer (some ⟨n, 0, none⟩)] 24) := ⟨_, rfl⟩
  have P1 := hid (show Pure w W1 from by rw [hW1]; exact (Below.refl _ _).alloc (Nat.le_refl _) _)
  have Q1 := hid (show W1.heap[w.heap.size]? = some (.cells #[.pointer (some ⟨n, 0, none⟩)] 24 (0, 0)) from by rw [hW1]; exact block_alloc_new _ _)
  have hi := hid (mintr_any b (some l) 15 W1 (h.pure P1.out) (by omega) (by omega))
  unfold RdP at hi
  have hmf : ∀ (fn : Fn) (first cap : Array Value) (w : World), (Instr.makeFunc fn first cap).run Tryz.prog w = .ok (.func fn first cap) w := fun _ _ _ _ => rfl
  have Hlt := hid hlt
  unfold rdJ
  have Hbd := hid (rdInt_bd 15 (some l))
  clear h hlt
  generalize rdInt 15 (some l) = R at *
  obtain ⟨k, s1⟩ := R
  dsimp only at hi Hbd ⊢
  obtain ⟨k, rfl⟩ : ∃ k' : Nat, k = (k' : Int) := ⟨k.toNat, by have := Hbd.out.1; omega⟩
  rw [Int.toNat_natCast]
  have hrb := hid (fun W (hW : RdAt 117 b s1 W) => bread_any b s1 W hW)
  unfold RdBagP at hrb
  generalize rdBag s1 = R2 at *
  obtain ⟨g, s2⟩ := R2
  dsimp only at hrb ⊢
  go_enter Tryz.func45, Tryz.ntmps45
  go_wp2_with fail
  rw [← hW1]
  clear hW1
  refine hi.out.mono ?_
  rintro e w2 ⟨rfl, hr2, hk2⟩
  have hpa : ∀ o, Pure w2 (w2.alloc o) := fun o => (Below.refl _ _).alloc (Nat.le_refl _) o
  have Hr2 := hid (hr2.pure (hpa (.cells #[.int .i64 (k : Nat)] 3)))
  have Hpa := hid hpa
  have Hk2 := hid hk2
  clear hr2 hk2 hi hpa
  go_wp2_with fail
  refine (hrb.out _ Hr2.out).mono ?_
  rintro e w3 ⟨v0, v1, v2, rfl, hrow, hfr, hr3, hk3⟩
  obtain ⟨a0, c0, rfl⟩ := hrow.1.shape
  obtain ⟨a1, c1, rfl⟩ := hrow.2.1.shape
  obtain ⟨a2, c2, rfl⟩ := hrow.2.2.shape
  have Hrow := hid hrow
  have Hfr := hid hfr
  have Hr3 := hid hr3
  have Hk3 := hid hk3
  clear hrow hfr hr3 hk3 hrb
  go_wp2
  go_ret
  have hs1 := P1.out.size
  have hs2 := Hk2.out.size
  have hs3 := Hk3.out.size
  have hb := Hlt.out
  rw [World.size_alloc] at hs3
  have hq2 : w2.heap[w.heap.size]? = some (.cells #[.pointer (some ⟨n, 0, none⟩)] 24 (0, 0)) := (Hk2.out.block _ (lt_of_block Q1.out) (by omega)).trans Q1.out
  have hq3 := (Hk3.out.block _ (lt_of_block (block_alloc_old hq2 _)) (by omega)).trans (block_alloc_old hq2 (.cells #[.int .i64 (k : Nat)] 3))
  have hn2 := block_alloc_new w2 (.cells #[.int .i64 (k : Nat)] 3)
  have hn3 := (Hk3.out.block _ (lt_of_block hn2) (by omega)).trans hn2
  have hpa : ∀ o, Pure w3 (w3.alloc o) := fun o => (Below.refl _ _).alloc (Nat.le_refl _) o
  exact ⟨_, _, _, _, _, _, rfl, ⟨block_alloc_old hn3 _, block_alloc_new _ _, block_alloc_old hq3 _, Hr3.out.pure (hpa _), (((P1.out.kept.trans Hk2.out).alloc _).trans Hk3.out).alloc _, Hrow.out.pure (hpa _), Hfr.out.mono (by rw [World.size_alloc]; omega), by omega, by omega, Nat.le_refl _⟩⟩

set_option maxRecDepth 8000 in
set_option maxHeartbeats 8000000 in
theorem sclos_B (n m b p1 p2 q k : Nat) (v0 v1 v2 : Value) (S : SD) (h : Bag) (s : RS) (w0 w : World) (hSt : St2 n m S w) (hR0 : RdB n b p1 p2 q k v0 v1 v2 h s w0 w) (hn0 : n < w0.heap.size) (hm0 : m < w0.heap.size) (hk : k < 16) (hb : S.bags.length = 16) (hg : BV (S.bags.getD k nb)) (hh : BV h)
    (hll : (S.bags.getD k nb).1.length + h.1.length ≤ 1000) (hlc : (S.bags.getD k nb).2.1.length + (S.bags.getD k nb).2.2.length + (h.2.1.length + h.2.2.length) ≤ 1000) :
    Calls Tryz.prog 90 #[.pointer (some ⟨q, 0, none⟩), .pointer (some ⟨p1, 0, none⟩), .pointer (some ⟨p2, 0, none⟩)] w fun e w' => e = .returned (.tuple #[]) ∧ St2 n m { S with bags := S.bags.set k (bjoin (S.bags.getD k nb) h) } w' ∧ Kept (fun k => k = n) w w' := by
  have hnl := hSt.lt
  obtain ⟨r, hA, hR, hM⟩ := hSt
  obtain ⟨u0, u1, u2, e0, e1, e2, hgr, g0, g1, g2⟩ := hR.bag k hk
  have hj := hid (fun W (hW : Pure w W) => sjoin_any _ _ _ _ _ _ _ _ W (hgr.pure hW) (hR0.row.pure hW) hg hh hll hlc)
  obtain ⟨x0, y0, rfl⟩ := hgr.1.shape
  obtain ⟨x1, y1, rfl⟩ := hgr.2.1.shape
  obtain ⟨x2, y2, rfl⟩ := hgr.2.2.shape
  obtain ⟨a0, c0, rfl⟩ := hR0.row.1.shape
  obtain ⟨a1, c1, rfl⟩ := hR0.row.2.1.shape
  obtain ⟨a2, c2, rfl⟩ := hR0.row.2.2.shape
  unfold BagO at hj
  have hS := hid (fun W (hW : Pure w W) => (show W.cell? ⟨q, 0, none⟩ = some (.pointer (some ⟨n, 0, none⟩)) ∧ W.cell? ⟨p1, 0, none⟩ = some (.int .i64 (k : Nat)) ∧ W.cell? ⟨p2, 0, none⟩ = some (.slice a0 h.1.length c0) ∧ W.cell? ⟨p2, 1, none⟩ = some (.slice a1 h.2.1.length c1) ∧ W.cell? ⟨p2, 2, none⟩ = some (.slice a2 h.2.2.length c2) from
    ⟨cell_of_block ((hW.block _ (lt_of_block hR0.bq)).trans hR0.bq) 0, cell_of_block ((hW.block _ (lt_of_block hR0.b1)).trans hR0.b1) 0, cell_of_block ((hW.block _ (lt_of_block hR0.b2)).trans hR0.b2) 0, cell_of_block ((hW.block _ (lt_of_block hR0.b2)).trans hR0.b2) 1, cell_of_block ((hW.block _ (lt_of_block hR0.b2)).trans hR0.b2) 2⟩))
  have hot : ∀ (W : World) (x y z : Value) (j : Nat) (o : Obj), w0.heap.size ≤ j → W.heap[j]? = some o → (((W.setCell ⟨n, 2 + k * 3, none⟩ x).setCell ⟨n, 2 + k * 3 + 1, none⟩ y).setCell ⟨n, 2 + k * 3 + 2, none⟩ z).heap[j]? = some o := fun W x y z j o hj h1 =>
    block_setCell_other (block_setCell_other (block_setCell_other h1 _ (by show n ≠ j; omega) _) _ (by show n ≠ j; omega) _) _ (by show n ≠ j; omega) _
  have hS2 := hid (fun W (x y z : Value) (hW : Pure w W) => (show ((((W.setCell ⟨n, 2 + k * 3, none⟩ x).setCell ⟨n, 2 + k * 3 + 1, none⟩ y).setCell ⟨n, 2 + k * 3 + 2, none⟩ z)).cell? ⟨q, 0, none⟩ = some (.pointer (some ⟨n, 0, none⟩)) ∧ ((((W.setCell ⟨n, 2 + k * 3, none⟩ x).setCell ⟨n, 2 + k * 3 + 1, none⟩ y).setCell ⟨n, 2 + k * 3 + 2, none⟩ z)).cell? ⟨p1, 0, none⟩ = some (.int .i64 (k : Nat)) ∧ ((((W.setCell ⟨n, 2 + k * 3, none⟩ x).setCell ⟨n, 2 + k * 3 + 1, none⟩ y).setCell ⟨n, 2 + k * 3 + 2, none⟩ z)).cell? ⟨p2, 0, none⟩ = some (.slice a0 h.1.length c0) ∧ ((((W.setCell ⟨n, 2 + k * 3, none⟩ x).setCell ⟨n, 2 + k * 3 + 1, none⟩ y).setCell ⟨n, 2 + k * 3 + 2, none⟩ z)).cell? ⟨p2, 1, none⟩ = some (.slice a1 h.2.1.length c1) ∧ ((((W.setCell ⟨n, 2 + k * 3, none⟩ x).setCell ⟨n, 2 + k * 3 + 1, none⟩ y).setCell ⟨n, 2 + k * 3 + 2, none⟩ z)).cell? ⟨p2, 2, none⟩ = some (.slice a2 h.2.2.length c2) from
    ⟨cell_of_block (hot W x y z q _ hR0.qf ((hW.block _ (lt_of_block hR0.bq)).trans hR0.bq)) 0, cell_of_block (hot W x y z p1 _ hR0.pf ((hW.block _ (lt_of_block hR0.b1)).trans hR0.b1)) 0, cell_of_block (hot W x y z p2 _ hR0.pf2 ((hW.block _ (lt_of_block hR0.b2)).trans hR0.b2)) 0, cell_of_block (hot W x y z p2 _ hR0.pf2 ((hW.block _ (lt_of_block hR0.b2)).trans hR0.b2)) 1, cell_of_block (hot W x y z p2 _ hR0.pf2 ((hW.block _ (lt_of_block hR0.b2)).trans hR0.b2)) 2⟩))
  have hcs := hid (fun W (hW : Pure w W) => And.intro ((hA.pure hW).at2 (j' := 2 + k * 3) e0 (by omega)) (And.intro ((hA.pure hW).at2 (j' := 2 + k * 3 + 1) e1 (by omega)) ((hA.pure hW).at2 (j' := 2 + k * 3 + 2) e2 (by omega))))
  have HR := hid hR
  have HM := hid hM
  have Hnl := hid hnl
  have Hml := hid (show m < w.heap.size from Nat.lt_of_lt_of_le hm0 hR0.k.size)
  have hkk : (k : Int) < 16 := by omega
  have hk0 : (0 : Int) ≤ (k : Int) := by omega
  have Hhb := hid hb
  generalize hJ : bjoin (S.bags.getD k nb) h = J at *
  generalize S.bags.getD k nb = g at *
  clear hJ hgr g0 g1 g2 hR hn0 hm0 hM hot hR0 hb hg hh hll hlc
  go_enter Tryz.func90, Tryz.ntmps90
  go_wp2_with fail
  refine wp_region_held_drew (S := (fun W => W.cell? ⟨q, 0, none⟩ = some (.pointer (some ⟨n, 0, none⟩)) ∧ W.cell? ⟨p1, 0, none⟩ = some (.int .i64 (k : Nat)) ∧ W.cell? ⟨p2, 0, none⟩ = some (.slice a0 h.1.length c0) ∧ W.cell? ⟨p2, 1, none⟩ = some (.slice a1 h.2.1.length c1) ∧ W.cell? ⟨p2, 2, none⟩ = some (.slice a2 h.2.2.length c2))) (by kernel_rfl) ?_ (fun hHeld => ?_)
  · exact hS.out _ (Below.refl _ _).drew
  obtain ⟨y0, hy0⟩ : ∃ yy, yy = w.drew := ⟨_, rfl⟩
  have Q0 := hid (show Pure w y0 from by rw [hy0]; exact (Below.refl _ _).drew)
  rw [← hy0] at hHeld ⊢
  clear hy0
  obtain ⟨⟨d0, f0⟩, ⟨d1, f1⟩, ⟨d2, f2⟩⟩ := hcs.out _ Q0.out
  refine tkA 0 ?_
  refine tkA 1 ?_
  refine tkA 2 ?_
  refine tkA 3 ?_
  refine tkA 4 ?_
  refine tkA 5 ?_
  refine tkA 6 ?_
  refine tkA 8 ?_
  refine tkA 10 ?_
  refine tkA 11 ?_
  refine wpAnyH_ready (rs := [7]) (by kernel_rfl) (by simp) ?_
  refine AllReadyH.cons rfl (fun K hK => ?_) AllReadyH.nil
  (try simp only [List.getElem_toArray, List.getElem_cons_succ, List.getElem_cons_zero])
  go_simp
  refine hK.out _ _ ?_ (fun hHeld => ?_)
  · exact hS.out _ Q0.out
  clear hK K
  try simp only [Act.put, List.setIfInBounds_toArray, List.set_cons_zero, List.set_cons_succ, List.getElem_toArray, List.getElem_cons_succ, List.getElem_cons_zero]
  refine wpAnyH_ready (rs := [9]) (by kernel_rfl) (by simp) ?_
  refine AllReadyH.cons rfl (fun K hK => ?_) AllReadyH.nil
  (try simp only [List.getElem_toArray, List.getElem_cons_succ, List.getElem_cons_zero])
  go_simp
  go_at_call 91; refine (hj.out _ Q0.out).mono ?_; rintro e y2 ⟨v7, v8, v9, rfl, hrow, hp, hf⟩; have Q2 := hid (Q0.out.then_ hp); obtain ⟨a7, c7, rfl⟩ := hrow.1.shape; obtain ⟨a8, c8, rfl⟩ := hrow.2.1.shape; obtain ⟨a9, c9, rfl⟩ := hrow.2.2.shape
  refine hK.out _ _ ?_ (fun hHeld => ?_)
  · exact hS.out _ Q2.out
  clear hK K
  try simp only [Act.put, List.setIfInBounds_toArray, List.set_cons_zero, List.set_cons_succ, List.getElem_toArray, List.getElem_cons_succ, List.getElem_cons_zero]
  have Hrow := hid hrow
  have Hf := hid (hf.mono Q0.out.size)
  clear hrow hf d0 d1 d2 f0 f1 f2 hp
  obtain ⟨⟨d0, f0⟩, ⟨d1, f1⟩, ⟨d2, f2⟩⟩ := hcs.out _ Q2.out
  refine tkA 12 ?_
  refine wpAnyH_ready (rs := [13]) (by kernel_rfl) (by simp) ?_
  refine AllReadyH.cons rfl (fun K hK => ?_) AllReadyH.nil
  (try simp only [List.getElem_toArray, List.getElem_cons_succ, List.getElem_cons_zero])
  go_simp
  refine hK.out _ _ ?_ (fun hHeld => ?_)
  · exact hS2.out _ _ _ _ Q2.out
  clear hK K
  try simp only [Act.put, List.getElem_toArray, List.getElem_cons_succ, List.getElem_cons_zero]
  clear d0 d1 d2 f0 f1 f2
  refine wpAnyH_done (by kernel_rfl) ?_ _
  go_wp2
  go_end0
  have hk1 : Kept (fun k => k = n) y2 (((y2.setCell ⟨n, 2 + k * 3, none⟩ (.slice a7 J.1.length c7)).setCell ⟨n, 2 + k * 3 + 1, none⟩ (.slice a8 J.2.1.length c8)).setCell ⟨n, 2 + k * 3 + 2, none⟩ (.slice a9 J.2.2.length c9)) := Kept.setCell (S := fun k => k = n) (Kept.setCell (S := fun k => k = n) (Kept.setCell (S := fun k => k = n) (Kept.refl _ _) (p := ⟨n, 2 + k * 3, none⟩) (fun _ => rfl) _) (p := ⟨n, 2 + k * 3 + 1, none⟩) (fun _ => rfl) _) (p := ⟨n, 2 + k * 3 + 2, none⟩) (fun _ => rfl) _
  have hf0 := fun j hj => Nat.lt_of_lt_of_le Hnl.out (Hf.out.1 j hj)
  have hf1 := fun j hj => Nat.lt_of_lt_of_le Hnl.out (Hf.out.2.1 j hj)
  have hf2 := fun j hj => Nat.lt_of_lt_of_le Hnl.out (Hf.out.2.2 j hj)
  have hm0 := fun j hj => Nat.lt_of_lt_of_le Hml.out (Hf.out.1 j hj)
  have hm1 := fun j hj => Nat.lt_of_lt_of_le Hml.out (Hf.out.2.1 j hj)
  have hm2 := fun j hj => Nat.lt_of_lt_of_le Hml.out (Hf.out.2.2 j hj)
  have hbr := Hrow.out.kept hk1 (fun j hj e => by have := hf0 j hj; omega) (fun j hj e => by have := hf1 j hj; omega) (fun j hj e => by have := hf2 j hj; omega)
  exact ⟨rfl, ⟨_, (((hA.pure Q2.out).set2 (k * 3) (by omega) _).set2 (k * 3 + 1) (by omega) _).set2 (k * 3 + 2) (by omega) _, ((HR.out.pure Q2.out).kept hk1).setBag hk Hhb.out hbr (fun j hj e => by have := hf0 j hj; omega) (fun j hj e => by have := hf1 j hj; omega) (fun j hj e => by have := hf2 j hj; omega), ((HM.out.pure Q2.out).kept2 (HR.out.pure Q2.out) hk1).setBag hk Hhb.out hbr (fun j hj e => by have := hm0 j hj; omega) (fun j hj e => by have := hm1 j hj; omega) (fun j hj e => by have := hm2 j hj; omega)⟩, (Pure.kept Q2.out).trans hk1⟩
end Go.Proofs.YtdlpnhfgjficgaaGreat

namespace Go.Proofs.YtdlpnhfgjficgaaGreat
open Go.RowKit Go.Maps Go.Shelf

theorem rdJ_bd (l : List UInt8) : (rdJ l).1 < 16 := by
  have := (rdInt_bd 15 (some l)).1
  have := (rdInt_bd 15 (some l)).2 (by decide)
  show (rdInt 15 (some l)).1.toNat < 16
  omega
def apB (S : SD) (l : List UInt8) : SD × Int := if (rdJ l).2.2 = some [] then ({ S with bags := S.bags.set (rdJ l).1 (bjoin (S.bags.getD (rdJ l).1 nb) (rdJ l).2.1) }, 0) else (S, 10)
set_option maxRecDepth 8000 in
set_option maxHeartbeats 2000000 in
theorem sapply_B (n m M c : Nat) (S : SD) (l : List UInt8) (w : World) (h : St2 n m S w) (hm : m < w.heap.size) (hb : S.bags.length = 16) (hN : ∀ p, BN M (S.bags.getD p nb)) (hr : BN c (rdJ l).2.1) (hMc : M + c ≤ 1000) :
    Calls Tryz.prog 14 #[.pointer (some ⟨n, 0, none⟩), .string (bs (66 :: l))] w fun e w' => e = .returned (.int .i64 (apB S l).2) ∧ St2 n m (apB S l).1 w' ∧ Kept (fun k => k = n) w w' := by
  have hlt := hid h.lt
  have H := hid h
  have Hm := hid hm
  have hk := rdJ_bd l
  have hmr := hid (mread_any l w)
  have hrd := hid (fun W (hW : RdAt 117 w.heap.size (some l) W) => sread_B n w.heap.size l W hW)
  have hx1 : (bs (66 :: l)).extract 0 1 = ⟨#[66]⟩ := by
    rw [bs_take]; rfl
  have hx2 : (bs (66 :: l)).extract 1 (l.length + 1) = bs l := by
    rw [bs_drop _ _ _ (by simp)]; rfl
  have hsz : (bs (66 :: l)).size = l.length + 1 := by rw [bs_size]; simp
  have hne : ((bs (66 :: l)).toList = []) = False := by rw [bs_list1]; simp
  have hne2 : ((bs (66 :: l)).toList == []) = false := by rw [bs_list1]; rfl
  have hA := hid (show apB S l = if (rdJ l).2.2 = some [] then ({ S with bags := S.bags.set (rdJ l).1 (bjoin (S.bags.getD (rdJ l).1 nb) (rdJ l).2.1) }, 0) else (S, 10) from rfl)
  generalize apB S l = Z at *
  generalize rdJ l = RR at *
  obtain ⟨k, R, s1⟩ := RR
  dsimp only at hrd hA hk hr
  have hg := hN k
  have Hclo := hid (fun w0 w1 b p1 p2 q v0 v1 v2 (h1 : St2 n m S w1) (h2 : RdB n b p1 p2 q k v0 v1 v2 R (some []) w0 w1) (h3 : n < w0.heap.size) (h4 : m < w0.heap.size) => sclos_B n m b p1 p2 q k v0 v1 v2 S R (some []) w0 w1 h1 h2 h3 h4 hk hb hg.v hr.v (by have := hg.l; have := hr.l; omega) (by have := hg.c; have := hr.c; omega))
  have hend := hid (fun W (hW : RdAt 117 w.heap.size s1 W) => mend_any w.heap.size s1 W hW)
  have hnf1 := nf1
  have hnf2 := nf2
  clear h hm hg hr hk hMc hN hb
  by_cases hs : s1 = some []
  · subst hs
    have hend' := hid (fun W hW => (show Calls Tryz.prog 46 #[.pointer (some ⟨w.heap.size, 0, none⟩)] W fun e w' => e = .returned (.int .i64 0) ∧ Pure W w' from by have := hend.out W hW; rw [if_pos rfl] at this; exact this))
    clear hend
    have hZ : Z = ({ S with bags := S.bags.set k (bjoin (S.bags.getD k nb) R) }, 0) := by rw [hA.out, if_pos rfl]
    subst hZ
    go_enter Tryz.func14, Tryz.ntmps14
    go_wp2_with (first
      | (go_at_call 44; refine hmr.out.mono ?_; rintro e w1 ⟨rfl, hr1, hp1⟩; have Hr1 := hid hr1; have Hp1 := hid hp1; have hn1 := Nat.lt_of_lt_of_le hlt.out hp1.size; have hm1 := Nat.lt_of_lt_of_le Hm.out hp1.size; clear hr1 hp1)
      | (go_at_call 45; refine (hrd.out _ Hr1.out).mono ?_; rintro e w2 ⟨p1, p2, q, v0, v1, v2, rfl, hc⟩; have HC := hid hc; have HP2 := hid (pure_box Hp1.out hc.k (Nat.le_refl _)); clear hc)
      | (go_at_call 46; refine (hend'.out _ HC.out.r).mono ?_; rintro e w3 ⟨rfl, hp3⟩; have HP3 := hid (HP2.out.then_ hp3); have HC3 := hid (HC.out.pure hp3); clear hp3)
      | (go_at_call 90; refine (Hclo.out _ _ _ _ _ _ _ _ _ (H.out.pure HP3.out) HC3.out hn1 hm1).mono ?_; rintro e w5 ⟨rfl, hs5, hk5⟩; have HS5 := hid hs5; have HK5 := hid hk5; clear hs5 hk5))
    go_ret
    exact ⟨rfl, HS5.out, (Pure.kept HP3.out).trans HK5.out⟩
  · have hend' := hid (fun W hW => (show Calls Tryz.prog 46 #[.pointer (some ⟨w.heap.size, 0, none⟩)] W fun e w' => e = .returned (.int .i64 10) ∧ Pure W w' from by have := hend.out W hW; rw [if_neg hs] at this; exact this))
    have hZ : Z = (S, 10) := by rw [hA.out, if_neg hs]
    subst hZ
    clear hend hs
    go_enter Tryz.func14, Tryz.ntmps14
    go_wp2_with (first
      | (go_at_call 44; refine hmr.out.mono ?_; rintro e w1 ⟨rfl, hr1, hp1⟩; have Hr1 := hid hr1; have Hp1 := hid hp1; clear hr1 hp1)
      | (go_at_call 45; refine (hrd.out _ Hr1.out).mono ?_; rintro e w2 ⟨p1, p2, q, v0, v1, v2, rfl, hc⟩; have HC := hid hc; have HP2 := hid (pure_box Hp1.out hc.k (Nat.le_refl _)); clear hc)
      | (go_at_call 46; refine (hend'.out _ HC.out.r).mono ?_; rintro e w3 ⟨rfl, hp3⟩; have HP3 := hid (HP2.out.then_ hp3); clear hp3))
    go_ret
    exact ⟨rfl, H.out.pure HP3.out, Pure.kept HP3.out⟩


set_option maxRecDepth 8000 in
set_option maxHeartbeats 2000000 in
theorem sread_other (n b : Nat) (c : UInt8) (w : World) (hc : c ≠ 73 ∧ c ≠ 82 ∧ c ≠ 66 ∧ c ≠ 78 ∧ c ≠ 86 ∧ c ≠ 72) :
    Calls Tryz.prog 45 #[.pointer (some ⟨n, 0, none⟩), .string ⟨#[c]⟩, .pointer (some ⟨b, 0, none⟩)] w fun e w' => e = .returned .nilFunc ∧ Pure w w' := by
  have q : ∀ d : UInt8, c ≠ d → (c == d) = false := fun d h => by simpa using h
  have q1 := q _ hc.1
  have q2 := q _ hc.2.1
  have q3 := q _ hc.2.2.1
  have q4 := q _ hc.2.2.2.1
  have q5 := q _ hc.2.2.2.2.1
  have q6 := q _ hc.2.2.2.2.2
  clear q hc
  go_enter Tryz.func45, Tryz.ntmps45
  go_wp2
  go_ret
  exact ⟨rfl, (Below.refl _ _).alloc (Nat.le_refl _) _⟩
set_option maxRecDepth 8000 in
set_option maxHeartbeats 2000000 in
theorem sapply_other (n : Nat) (c : UInt8) (l : List UInt8) (w : World) (hc : c ≠ 73 ∧ c ≠ 82 ∧ c ≠ 66 ∧ c ≠ 78 ∧ c ≠ 86 ∧ c ≠ 72) :
    Calls Tryz.prog 14 #[.pointer (some ⟨n, 0, none⟩), .string (bs (c :: l))] w fun e w' => e = .returned (.int .i64 10) ∧ Pure w w' := by
  have hmr := hid (mread_any l w)
  have hrd := hid (fun W => sread_other n w.heap.size c W hc)
  have hx1 : (bs (c :: l)).extract 0 1 = ⟨#[c]⟩ := by
    rw [bs_take]; rfl
  have hx2 : (bs (c :: l)).extract 1 (l.length + 1) = bs l := by
    rw [bs_drop _ _ _ (by simp)]; rfl
  have hsz : (bs (c :: l)).size = l.length + 1 := by rw [bs_size]; simp
  have hne : ((bs (c :: l)).toList = []) = False := by rw [bs_list1]; simp
  have hne2 : ((bs (c :: l)).toList == []) = false := by rw [bs_list1]; rfl
  have hnf1 := nf1
  clear hc
  go_enter Tryz.func14, Tryz.ntmps14
  go_wp2_with (first
    | (go_at_call 44; refine hmr.out.mono ?_; rintro e w1 ⟨rfl, hr1, hp1⟩; have Hr1 := hid hr1; have Hp1 := hid hp1; clear hr1 hp1)
    | (go_at_call 45; refine (hrd.out _).mono ?_; rintro e w2 ⟨rfl, hp2⟩; have HP2 := hid (Hp1.out.then_ hp2); clear hp2))
  go_ret
  exact ⟨rfl, HP2.out⟩
set_option maxRecDepth 8000 in
set_option maxHeartbeats 2000000 in
theorem sapply_empty (n : Nat) (w : World) :
    Calls Tryz.prog 14 #[.pointer (some ⟨n, 0, none⟩), .string (bs [])] w fun e w' => e = .returned (.int .i64 10) ∧ Pure w w' := by
  have hne : ((bs []).toList = []) = True := by rw [bs_list1]; simp
  have hne2 : ((bs []).toList == []) = true := by rw [bs_list1]; rfl
  go_enter Tryz.func14, Tryz.ntmps14
  go_wp2
  go_ret
  exact ⟨rfl, Below.refl _ _⟩

/-- A record, applied: what the state is then, and the answer. -/
def appl (S : SD) (t : List UInt8) : SD × Int := match t with
  | [] => (S, 10)
  | c :: l => if c = 73 then ({ S with id := (apI S.id l).1 }, (apI S.id l).2) else if c = 82 then ({ S with up := (apR S.up l).1 }, (apR S.up l).2) else if c = 66 then apB S l else if c = 78 then apN S l else if c = 86 then apV S l else if c = 72 then apH S l else (S, 10)
/-- How large a bag a record brings. -/
def bsz (t : List UInt8) : Bag := match t with
  | [] => nb
  | c :: l => if c = 66 then (rdJ l).2.1 else nb
def ApP (n m : Nat) (S : SD) (t : List UInt8) (w : World) (e : Ending) (w' : World) : Prop := e = .returned (.int .i64 (appl S t).2) ∧ St2 n m (appl S t).1 w' ∧ Kept (fun k => k = n) w w'
theorem sapply_any (n m M c : Nat) (S : SD) (t : List UInt8) (w : World) (h : St2 n m S w) (hm : m < w.heap.size) (ok : SOk M S) (hr : BN c (bsz t)) (hMc : M + c ≤ 1000) :
    Calls Tryz.prog 14 #[.pointer (some ⟨n, 0, none⟩), .string (bs t)] w (ApP n m S t w) := by
  cases t with
  | nil => exact (sapply_empty n w).mono fun e w' ⟨h1, h2⟩ => ⟨h1, h.pure h2, h2.kept⟩
  | cons k l =>
    by_cases h1 : k = 73
    · subst h1
      obtain ⟨r, a1, a2, a3⟩ := h
      refine (sapply_born n S.id S.up r l w a1 ok.id0 (by have := ok.id1; omega)).mono ?_
      rintro e w' ⟨e1, e2, e3⟩
      have k2 := a2.kept e3
      have k3 := a3.kept2 a2 e3
      exact ⟨e1, ⟨r, e2, ⟨k2.len, k2.bag, k2.tags, k2.view, k2.holds⟩, ⟨k3.len, k3.bag, k3.tags, k3.view, k3.holds⟩⟩, e3⟩
    · by_cases h2 : k = 82
      · subst h2
        obtain ⟨r, a1, a2, a3⟩ := h
        refine (sapply_res n S.id S.up r l w a1).mono ?_
        rintro e w' ⟨e1, e2, e3⟩
        have k2 := a2.kept e3
        have k3 := a3.kept2 a2 e3
        exact ⟨e1, ⟨r, e2, ⟨k2.len, k2.bag, k2.tags, k2.view, k2.holds⟩, ⟨k3.len, k3.bag, k3.tags, k3.view, k3.holds⟩⟩, e3⟩
      · by_cases h3 : k = 66
        · subst h3
          exact sapply_B n m M c S l w h hm ok.bn ok.bag hr hMc
        · by_cases h4 : k = 78
          · subst h4
            exact sapply_N n m S l w h hm ok.tags
          · by_cases h5 : k = 86
            · subst h5
              exact sapply_V n m S l w h hm ok.view
            · by_cases h6 : k = 72
              · subst h6
                exact sapply_H n m S l w h hm
              · refine (sapply_other n k l w ⟨h1, h2, h3, h4, h5, h6⟩).mono ?_
                rintro e w' ⟨e1, e2⟩
                have ea : appl S (k :: l) = (S, 10) := by unfold appl; simp only [h1, h2, h3, h4, h5, h6, if_false]
                unfold ApP
                rw [ea]
                exact ⟨e1, h.pure e2, e2.kept⟩
end Go.Proofs.YtdlpnhfgjficgaaGreat

