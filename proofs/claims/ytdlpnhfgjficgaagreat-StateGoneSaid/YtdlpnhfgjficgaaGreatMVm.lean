/- maps.Values(m) at peers: an iterator that gives a map's values, each once, in some order. slices.AppendSeq and Collect at peers, against whatever iterator that gives; slices.SortedFunc of a map's values. slices.SortFunc of a row of peers by their IDs; slices.SortedFunc(maps.Values(m), ..). slices.Concat of two rows of peers. -/
import Derived.Test.YtdlpnhfgjficgaaGreatMSo
import Derived.Test.YtdlpnhfgjficgaaGreatMPe
import Derived.Shelf.SlIterI.Collect
import Derived.Test.YtdlpnhfgjficgaaGreatMPa
import Derived.Shelf.Spec.SlicesGrow
namespace Go.Proofs.YtdlpnhfgjficgaaGreat
open Go.RowKit Go.Maps Go.Sort Go.Shelf

theorem pv_inj {p q : Pr} (h : pv p = pv q) : p = q := by
  obtain ⟨a, b, c⟩ := p
  obtain ⟨x, y, z⟩ := q
  simp [pv] at h
  obtain ⟨rfl, rfl, rfl⟩ := h
  rfl
open Classical in
/-- The peer that a value is. -/
noncomputable def peerR (v : Value) : Option (DataW Pr × List MemPlace) := if h : ∃ p, v = pv p then some (.held h.choose, []) else none
theorem peerR_pv (p : Pr) : peerR (pv p) = some (.held p, []) := by
  have h : ∃ q, pv p = pv q := ⟨p, rfl⟩
  unfold peerR
  rw [dif_pos h]
  have := pv_inj h.choose_spec
  rw [← this]
theorem peerR_inv {v : Value} {y : DataW Pr × List MemPlace} (h : peerR v = some y) : ∃ p, v = pv p := by
  unfold peerR at h
  split at h
  · assumption
  · cases h

theorem IMap.ownsP {w : World} {b : Nat} {m : List (Int × Pr)} {P : Program} {kt : TypeId} (hk : P.underlying kt = some (.int .i64)) (h : IMap pv w b m) (hl : m.length ≤ maxLen) :
    ∃ D : DataW Pr, w.ownsMap P kt peerR b m.length D ∧ (intKeys D).Perm (m.map (·.1)) ∧ Maps.size D = m.length ∧ (m.map (·.1)).Nodup ∧ ∀ p ∈ m, ∀ zd, D.atKey (.int .i64 p.1) zd = .held p.2 := by
  obtain ⟨es, clock, hb, hst, hwf, he⟩ := h
  have hlen : es.size = m.length := by have := congrArg List.length he; simpa using this
  have hks := IMap.keysOf hk hwf he
  have hrd : ∀ (l : List MapEntry) (k : List (Int × Pr)), l.map (fun x => (x.key, x.val)) = k.map (fun p => (Value.int .i64 p.1, pv p.2)) → (∀ p ∈ k, (Lit.int .i64 p.1).wf = true) → l.map (WideElems.rg P kt peerR) = k.map (fun p => (Lit.int .i64 p.1, DataW.held p.2)) ∧ ∀ x ∈ l, ∃ y, WideElems.rd P kt peerR x = some y := by
    intro l
    induction l with
    | nil => intro k hk' _; cases k with
      | nil => exact ⟨rfl, by simp⟩
      | cons _ _ => simp at hk'
    | cons x l ih =>
      intro k hk' hw
      cases k with
      | nil => simp at hk'
      | cons p k =>
        simp only [List.map_cons, List.cons.injEq, Prod.mk.injEq] at hk' ⊢
        obtain ⟨i1, i2⟩ := ih k hk'.2 (fun q hq => hw q (by simp [hq]))
        have := keyOf_int_mk hk (hw p (by simp))
        have hx : WideElems.rd P kt peerR x = some (Lit.int .i64 p.1, DataW.held p.2) := by simp [WideElems.rd, hk'.1.1, hk'.1.2, this, peerR_pv]
        refine ⟨⟨by simp [WideElems.rg, hx], i1⟩, fun u hu => ?_⟩
        rcases List.mem_cons.1 hu with rfl | hu
        · exact ⟨_, hx⟩
        · exact i2 u hu
  obtain ⟨hrg, hrds⟩ := hrd _ _ he hwf
  have hnd : (m.map (·.1)).Nodup := by
    have h2 := hst.2.2
    have e1 : es.toList.map (·.key) = m.map (fun p => Value.int .i64 p.1) := by
      have := congrArg (List.map (·.1)) he
      simpa [List.map_map, Function.comp_def] using this
    rw [e1] at h2
    refine List.pairwise_map.2 ((List.pairwise_map.1 h2).imp ?_)
    intro a c hne e
    exact hne (by rw [e])
  have F : WideElems.Fit P kt peerR es clock := ⟨by omega, hst, hrds⟩
  have hperm := WideShapes.sorted_perm (es.toList.map (WideElems.rg P kt peerR))
  refine ⟨_, ⟨es, clock, hb, F, by omega, rfl⟩, ?_, by simp [Maps.size, length_sorted, hlen], hnd, fun p hp zd => ?_⟩
  · show (((es.toList.map (WideElems.rg P kt peerR)).foldr DataW.insert []).map fun p => Go.intOf p.1).Perm _
    refine (hperm.map _).trans ?_
    rw [hrg, List.map_map]
    exact List.Perm.refl _
  · refine WideAt.atKey_mem zd trivial ?_ (hperm.mem_iff.2 (by rw [hrg]; exact List.mem_map.2 ⟨p, hp, rfl⟩))
    refine (hperm.pairwise_iff (fun {a b} h => fun e => h e.symm)).2 ?_
    rw [hrg, List.pairwise_map]
    refine List.Pairwise.imp ?_ (List.pairwise_map.1 hnd)
    intro a c hne e
    exact hne (by simpa using e)

/-- The pairs that have come. -/
def CameAt (D0 : DataW Pr) (p : Int × Pr) : Prop := ∀ zd, D0.atKey (.int .i64 p.1) zd = .held p.2
/-- What a map's datum has at a key. -/
def datP (D : DataW Pr) (k : Int) : Pr := match D.atKey (.int .i64 k) .nil with
  | .held p => p
  | _ => p0
theorem datP_at {D : DataW Pr} {p : Int × Pr} (h : CameAt D p) : datP D p.1 = p.2 := by unfold datP; rw [h .nil]
theorem map_datP {D : DataW Pr} {ps : List (Int × Pr)} (h : ∀ p ∈ ps, CameAt D p) : ps.map (·.2) = (ps.map (·.1)).map (datP D) := by
  rw [List.map_map]
  exact List.map_congr_left (fun p hp => (datP_at (h p hp)).symm)
theorem came_perm {m ps : List (Int × Pr)} {D : DataW Pr} (hp : (ps.map (·.1)).Perm (m.map (·.1))) (hm : ∀ p ∈ m, CameAt D p) (hc : ∀ p ∈ ps, CameAt D p) : (ps.map (·.2)).Perm (m.map (·.2)) := by
  rw [map_datP hm, map_datP hc]
  exact hp.map _

set_option maxRecDepth 100000 in
set_option maxHeartbeats 1000000 in
theorem values1_in (F : Fence) (n : Nat) (h10 : F.fn 196) (hro : F.round = none) (hn : 1 ≤ n) (l Bm b nn : Nat) (D0 : DataW Pr) (J : List Pr → World → Prop)
    (hY : ∀ pre x W, J pre W → pre.length < Maps.size D0 → YieldAt F (n - 1) Tryz.prog l #[pv x] W fun e W' => e = .returned (.bool true) ∧ J (pre ++ [x]) W' ∧ KeepsWalks W W')
    (W : World) (hJ : AbidesFrom W.heap.size J) (hm : W.cell? ⟨Bm, 0, none⟩ = some (.map (some b))) (hown : W.ownsMap Tryz.prog 3 peerR b nn D0) (h0 : J [] W) :
    CallsIn F n Tryz.prog 196 #[.func (.yield l) #[] #[], .pointer (some ⟨Bm, 0, none⟩)] W fun e W' => (∃ v, e = .returned v) ∧ ∃ ps : List (Int × Pr), (ps.map (·.1)).Perm (intKeys D0) ∧ (∀ p ∈ ps, CameAt D0 p) ∧ J (ps.map (·.2)) W' := by
  refine callsIn_of_wp Tryz.func196 rfl h10 ?_ hro
  simp only [Tryz.ntmps196, List.size_toArray, List.length_cons, List.length_nil, Nat.reduceAdd, Nat.reduceSub, Array.replicate_succ, Array.replicate_zero, List.push_toArray, List.append_toArray, List.nil_append, List.cons_append]
  gi_wp2_with (first
    | (gi_at_range; refine wpListIn_range_own _ rfl _ 160 rfl 3 92 (int_keyed Tryz.underlying3) Tryz.underlying160 _ b nn _ rfl hown ?_; intro w0 hrg0 hg0 hs0)
    | gi_in)
  go_frame
  gi_loopw [4] (fun _ wr => ∃ (left : Lit → Bool) (cnt : Nat) (ps : List (Int × Pr)), wr.ranges Tryz.prog 3 peerR b W.heap.size nn D0 left cnt ∧ ps.length + cnt ≤ Maps.size D0 ∧ CollectedI D0 left (ps.map (·.1)) ∧ (∀ p ∈ ps, CameAt D0 p) ∧ J (ps.map (·.2)) wr)
    (fun _ wr => wr.rangeLeft b W.heap.size)
  case atStart =>
    exact ⟨_, _, [], hrg0, by simp, CollectedI.start D0, by simp, hJ [] W w0 none h0 hg0 (fun r e => by cases e)⟩
  case round =>
    obtain ⟨left, cnt, ps, hrg, hcs, hC, hV, hJs⟩ := hrel
    gi_wp2_with (first
      | (gi_at_next; refine wpListIn_next_ranges _ rfl _ rfl 3 (int_keyed Tryz.underlying3) peerR encZ pv (fun key kl hk => by obtain ⟨x, hx, _⟩ := Maps.keyOf_i64 Tryz.underlying3 hk; exact ⟨x, hx⟩) (fun v y hv => peerR_inv hv) b W.heap.size nn _ _ _ rfl hrg ?_ ?_)
      | gi_in)
    · intro hc0 hl0
      gi_wp2
      go_end0
      exact ⟨⟨_, rfl⟩, ps, hC.perm hown (int_keyed Tryz.underlying3) Tryz.underlying3 hl0, hV, hJs⟩
    · intro x c kl yd yp w2 cnt2 hkey hlk hv hat hrg2 hlt hg2 hs2 hen
      obtain ⟨x', ex, rfl, _⟩ := Maps.keyOf_i64 Tryz.underlying3 hkey
      obtain rfl : x = x' := encZ_inj ex
      rw [peerR_pv] at hv
      obtain rfl : yd = .held c := by injection hv with hv; injection hv with h1 h2; exact h1.symm
      have hJ2 : J (ps.map (·.2)) w2 := hJ _ wr w2 (some W.heap.size) hJs hg2 (fun r e => by cases e; exact ⟨Nat.le_refl _, hrg.iter_walk⟩)
      have hJ3 : ∀ o, J (ps.map (·.2)) (w2.alloc o) := fun o => hJ _ w2 _ none hJ2 (World.grownBy_alloc _ _ _) (fun r e => by cases e)
      have hY2 := fun o => hY (ps.map (·.2)) c (w2.alloc o) (hJ3 o) (by simp; omega)
      obtain ⟨c1, c2, c3⟩ := c
      obtain ⟨fn, tmps, assign, body, hy, hR⟩ := hY2 (.cells #[.int .i64 c1, .int .i64 c2, .int .i64 c3] 92)
      clear hs2 hY2
      unfold pv at hy hen
      dsimp only at hy hen
      gi_wp2
      refine hR.mono ?_
      have hC2 : CollectedI D0 (fun z => left z && !z.sameKey (.int .i64 x)) ((ps ++ [(x, (⟨c1, c2, c3⟩ : Pr))]).map (·.1)) := by simpa using hC.step hlk hat
      have hV2 : ∀ p ∈ ps ++ [(x, (⟨c1, c2, c3⟩ : Pr))], CameAt D0 p := fun p hp => (List.mem_append.1 hp).elim (hV p) (fun e => by simp at e; subst e; exact hat)
      rintro e W3 ⟨rfl, hJ3, hk3⟩
      gi_wp2
      have hrg3 := (hrg2.of_walks (KeepsWalks.alloc _ _)).of_walks hk3
      go_roundw
      case rel => exact ⟨_, cnt2, ps ++ [(x, (⟨c1, c2, c3⟩ : Pr))], hrg3, by simp; omega, hC2, hV2, by simpa using hJ3⟩
      case measure => rw [hrg3.left_eq, hrg.left_eq]; exact hlt
end Go.Proofs.YtdlpnhfgjficgaaGreat

namespace Go.Proofs.YtdlpnhfgjficgaaGreat
open Go.RowKit Go.Maps Go.Sort Go.Shelf

theorem cell_heap_eq {W W' : World} {b off : Nat} (h : W'.heap[b]? = W.heap[b]?) : W'.cell? ⟨b, off, none⟩ = W.cell? ⟨b, off, none⟩ := by simp [World.cell?, h]
def apAssignP : Code := (Code.region 2 #[{ dst := some 5, op := Op.alloc 92, type := 0, pos := "iter.go:51", after := #[], guard := none }, { dst := none, op := Op.store 92 (Operand.tmp 5) (Operand.tmp 7), type := 0, pos := "iter.go:51", after := #[{ on := 0, ground := Ground.data }, { on := 0, ground := Ground.phase }], guard := none }] false)
def apBodyP : Code := (Code.block 1 (Code.region 3 #[{ dst := some 8, op := Op.load 50 (Operand.tmp 2), type := 50, pos := "iter.go:52", after := #[], guard := none }, { dst := some 9, op := Op.load 92 (Operand.tmp 5), type := 92, pos := "iter.go:52", after := #[], guard := none }, { dst := some 10, op := Op.buildSlice 50 1 #[(0, Operand.tmp 9)], type := 50, pos := "iter.go:52", after := #[{ on := 1, ground := Ground.data }], guard := none }, { dst := some 11, op := Op.call { callee := Callee.builtin Builtin.append, args := #[Operand.tmp 8, Operand.tmp 10], argTypes := #[50, 50] }, type := 50, pos := "iter.go:52", after := #[{ on := 0, ground := Ground.data }, { on := 2, ground := Ground.data }], guard := none }, { dst := none, op := Op.store 50 (Operand.tmp 2) (Operand.tmp 11), type := 0, pos := "iter.go:52", after := #[{ on := 3, ground := Ground.data }, { on := 3, ground := Ground.chain }, { on := 0, ground := Ground.phase }, { on := 1, ground := Ground.phase }, { on := 2, ground := Ground.phase }, { on := 3, ground := Ground.phase }], guard := none }] false))
/-- The loop's record: AppendSeq's temporaries as they stood at the entering: 's' boxed in block Bs; sv: the iterator's value. -/
def apRecP (fn : FuncId) (sv : Value) (Bs D : Nat) (st : LoopState) (pend : Option Code) : Loop :=
  { state := st, pending := pend, fn, tmps := #[.slice none 0 0, sv, .pointer (some ⟨Bs, 0, none⟩), undef, .slice none 0 0, undef, sv, undef, undef, undef, undef, undef, undef], params := #[7], assign := apAssignP, body := apBodyP, defers := D }

/-- BETWEEN TWO ROUNDS: the box holds a slice that owns, in a block of the call's own, what has come so far; IT IS nil JUST AS LONG AS NOTHING HAS COME; nothing that lay before the call has turned. -/
structure ApAtP (w0 : World) (fn : FuncId) (sv : Value) (Bs l D : Nat) (ss : List Pr) (W : World) : Prop where
  box : ∃ v, W.heap[Bs]? = some (.cells #[v] 50 (0, 0)) ∧ W.ownsRow w0.heap.size 92 3 v ss.length (pvs ss) ∧ (v = .slice none 0 0 ↔ ss = [])
  L : W.heap[l]? = some (.loop (apRecP fn sv Bs D .ready none))
  K : W.heap[D]? = some (.deferred (some []))
  below : Below w0.heap.size w0 W

theorem ap_abidesP (w0 : World) (fn : FuncId) (sv : Value) (Bs l D B : Nat) (hB : w0.heap.size ≤ B) : AbidesFrom B (ApAtP w0 fn sv Bs l D) := fun s W W' row h hg hrow => by
  have hrow' : ∀ r, row = some r → ∃ o : Obj, W.heap[r]? = some o ∧ o.isWalk = true := fun r e => (hrow r e).2
  obtain ⟨v, hv, hr, hn⟩ := h.box
  exact ⟨⟨v, (grownBy_keeps hg hrow' hv rfl).trans hv, ownsRow_abides_a hr hg hrow', hn⟩, (grownBy_keeps hg hrow' h.L rfl).trans h.L, (grownBy_keeps hg hrow' h.K rfl).trans h.K,
    h.below.grown hg h.below.size (fun k e => Nat.le_trans hB (hrow k e).1)⟩

set_option maxRecDepth 100000 in
set_option maxHeartbeats 2000000 in
theorem apYieldP (F : Fence) (m : Nat) (w0 : World) (fn : FuncId) (hfn : F.fn fn) (sv : Value) (Bs l D : Nat) (hBl : Bs ≠ l) (hDl : D ≠ l) (hDB : D ≠ Bs) (h0B : w0.heap.size ≤ Bs) (h0l : w0.heap.size ≤ l)
    (N : Nat) (hN : N ≤ maxLen) (hNb : N * 24 ≤ 140737488355328) (ss : List Pr) (x : Pr) (W : World) (h : ApAtP w0 fn sv Bs l D ss W) (hlen : ss.length < N) :
    YieldAt F m Tryz.prog l #[pv x] W fun e W' => e = .returned (.bool true) ∧ ApAtP w0 fn sv Bs l D (ss ++ [x]) W' ∧ KeepsWalks W W' := by
  obtain ⟨i0, hi, hz0, hz1, hz2⟩ := info_parts infoPeer
  obtain ⟨v, hv, hrow, _⟩ := h.box
  obtain ⟨x1, x2, x3⟩ := x
  unfold pv
  dsimp only
  refine ⟨fn, #[.slice none 0 0, sv, .pointer (some ⟨Bs, 0, none⟩), undef, .slice none 0 0, undef, sv, .agg #[.int .i64 x1, .int .i64 x2, .int .i64 x3], undef, undef, undef, undef, undef], apAssignP, apBodyP, by simpa [apRecP] using run_yield (P := Tryz.prog) (args := #[.agg #[.int .i64 x1, .int .i64 x2, .int .i64 x3]]) h.L rfl, roundIn_of_wpIn hfn ?_⟩
  have hl : l < W.heap.size := (Array.getElem?_eq_some_iff.1 h.L).1
  unfold apAssignP
  gi_wp2_with gi_round_op_a
  have hlit := peer_lit W ⟨x1, x2, x3⟩
  dsimp only at hlit
  have hBltW : Bs < W.heap.size := (Array.getElem?_eq_some_iff.1 hv).1
  have hDltW : D < W.heap.size := (Array.getElem?_eq_some_iff.1 h.K).1
  obtain ⟨W1, hW1⟩ : ∃ W1, W.alloc (.cells #[.int .i64 x1, .int .i64 x2, .int .i64 x3] 92) = W1 := ⟨_, rfl⟩
  rw [hW1] at hlit
  rw [hW1]
  have hk1 : KeepsWalks W W1 := by rw [← hW1]; exact KeepsWalks.alloc _ _
  have hv1 : W1.heap[Bs]? = some (.cells #[v] 50 (0, 0)) := by rw [← hW1]; exact (Below.heap_alloc _ _ Bs hBltW).trans hv
  have hK1 : W1.heap[D]? = some (.deferred (some [])) := by rw [← hW1]; exact (Below.heap_alloc _ _ D hDltW).trans h.K
  have hL1 : W1.heap[l]? = some (.loop (apRecP fn sv Bs D .ready none)) := by rw [← hW1]; exact (Below.heap_alloc _ _ l hl).trans h.L
  have hrow1 : W1.ownsRow w0.heap.size 92 3 v ss.length (pvs ss) := by rw [← hW1]; exact hrow.alloc _
  have hb1 : Below w0.heap.size w0 W1 := by rw [← hW1]; exact h.below.alloc h.below.size _
  have d0 : W1.cell? ⟨W.heap.size, 0, none⟩ = some (.int .i64 x1) := hlit 0 _ rfl
  have d1 : W1.cell? ⟨W.heap.size, 1, none⟩ = some (.int .i64 x2) := hlit 1 _ rfl
  have d2 : W1.cell? ⟨W.heap.size, 2, none⟩ = some (.int .i64 x3) := hlit 2 _ rfl
  clear hlit hW1
  have hbr := run_beginRound (P := Tryz.prog) hL1 rfl
  obtain ⟨W2, hW2⟩ : ∃ W2, W1.putObj l (.loop { apRecP fn sv Bs D .ready none with state := .busy }) = W2 := ⟨_, rfl⟩
  rw [hW2] at hbr
  have hg2 : W1.grownBy W2 (some l) := by rw [← hW2]; exact grownBy_putObj_a _ _ _
  have hk2 : KeepsWalks W W2 := by rw [← hW2]; exact hk1.trans (KeepsWalks.putObj _ hL1 rfl)
  have hl1 : l < W1.heap.size := (Array.getElem?_eq_some_iff.1 hL1).1
  have hv2 : W2.heap[Bs]? = some (.cells #[v] 50 (0, 0)) := by rw [← hW2]; exact (World.putObj_heap_other hBl).trans hv1
  have hK2 : W2.heap[D]? = some (.deferred (some [])) := by rw [← hW2]; exact (World.putObj_heap_other hDl).trans hK1
  have hL2 : W2.heap[l]? = some (.loop { apRecP fn sv Bs D .ready none with state := .busy }) := by rw [← hW2]; exact World.putObj_heap_same hl1
  have hrow2 : W2.ownsRow w0.heap.size 92 3 v ss.length (pvs ss) := hrow1.kept hg2 (ownsRow_ne_a hrow1 hL1 (fun cur e => by cases e))
  have hb2 : Below w0.heap.size w0 W2 := hb1.grown hg2 hb1.size (fun k e => by cases e; exact h0l)
  have hnl : l ≠ W.heap.size := by omega
  have e0 : W2.cell? ⟨W.heap.size, 0, none⟩ = some (.int .i64 x1) := by rw [← hW2]; exact (cell_heap_eq (World.putObj_heap_other (fun e => hnl e.symm))).trans d0
  have e1 : W2.cell? ⟨W.heap.size, 1, none⟩ = some (.int .i64 x2) := by rw [← hW2]; exact (cell_heap_eq (World.putObj_heap_other (fun e => hnl e.symm))).trans d1
  have e2 : W2.cell? ⟨W.heap.size, 2, none⟩ = some (.int .i64 x3) := by rw [← hW2]; exact (cell_heap_eq (World.putObj_heap_other (fun e => hnl e.symm))).trans d2
  clear d0 d1 d2
  obtain ⟨hc2, hf2⟩ := cell_of_box_a hv2
  have hBlt : Bs < W2.heap.size := (Array.getElem?_eq_some_iff.1 hv2).1
  have hl2 : l < W2.heap.size := (Array.getElem?_eq_some_iff.1 hL2).1
  have hDlt : D < W2.heap.size := (Array.getElem?_eq_some_iff.1 hK2).1
  have ne_of : ∀ {j : Nat} {o : Obj}, W2.heap[j]? = some o → (∀ cur, o ≠ .cells cur 92 (0, 0)) → some j ≠ v.ownBlock := fun hj hno => by
    rcases ownsRow_ne_a hrow2 hj hno with e | e
    · rw [e]; simp
    · exact fun e' => e e'.symm
  clear hW2 hg2
  unfold apBodyP
  gi_wp2_with (first
    | (gi_at_builtin; refine wpListIn_append_own _ rfl _ _ 50 rfl w0.heap.size 92 i0 (.agg #[.int .i64 0, .int .i64 0, .int .i64 0]) 3 24 Tryz.underlying50 hi hz0 hz1 hz2 rfl (by decide) _ _ _ rfl (hrow2.alloc _) ⟨W2.heap.size, 0, none⟩ 1 1 (pcells ⟨x1, x2, x3⟩) rfl rfl (peer_lit W2 ⟨x1, x2, x3⟩) (pcells_one _) (by omega) (by omega) (by have := hb2.size; simp; omega) ?_; intro v' w3 hown' hg3 hnil3
       have hv3 : w3.heap[Bs]? = some (.cells #[v] 50 (0, 0)) := (hg3.block Bs (by simp; omega) (ne_of hv2 (fun cur e => by cases e))).trans ((Below.heap_alloc _ _ Bs hBlt).trans hv2)
       obtain ⟨hc3, hf3⟩ := cell_of_box_a hv3
       obtain ⟨g', cap', cur', rfl, hbase', hgb', hr1, hr2, hr3, hr4⟩ : ∃ g' cap' cur', v' = .slice (some ⟨g', 0, none⟩) (ss.length + 1) cap' ∧ w0.heap.size ≤ g' ∧ w3.heap[g']? = some (.cells cur' 92 (0, 0)) ∧ ss.length + 1 ≤ cap' ∧ cap' ≤ maxLen ∧ cur'.size = cap' * 3 ∧ cur'.toList.take ((ss.length + 1) * 3) = pvs ss ++ pcells ⟨x1, x2, x3⟩ := by
         rcases hown'.2 with ⟨_, h0⟩ | h'
         · exact absurd h0 (by omega)
         · exact h'
       go_frame)
    | gi_round_op_a)
  have hg3' : (W2.alloc (.cells #[.int .i64 x1, .int .i64 x2, .int .i64 x3] 92)).grownBy w3 v.ownBlock := hg3
  have hL3 : w3.heap[l]? = some (.loop { apRecP fn sv Bs D .ready none with state := .busy }) := (hg3'.block l (by simp; omega) (ne_of hL2 (fun cur e => by cases e))).trans ((Below.heap_alloc _ _ l hl2).trans hL2)
  have hK3 : w3.heap[D]? = some (.deferred (some [])) := (hg3'.block D (by simp; omega) (ne_of hK2 (fun cur e => by cases e))).trans ((Below.heap_alloc _ _ D hDlt).trans hK2)
  obtain ⟨w4, hw4⟩ : ∃ w4, w3.setCell ⟨Bs, 0, none⟩ (.slice (some ⟨g', 0, none⟩) (ss.length + 1) cap') = w4 := ⟨_, rfl⟩
  rw [hw4]
  have hg4 : w3.grownBy w4 (some Bs) := by rw [← hw4]; exact grownBy_setCell0_a _ _ _
  have hv4 : w4.heap[Bs]? = some (.cells #[.slice (some ⟨g', 0, none⟩) (ss.length + 1) cap'] 50 (0, 0)) := by rw [← hw4]; exact heap_setCell_box_a _ hv3
  have hL4 : w4.heap[l]? = some (.loop { apRecP fn sv Bs D .ready none with state := .busy }) := (hg4.block l (Array.getElem?_eq_some_iff.1 hL3).1 (fun e => hBl (by cases e; rfl))).trans hL3
  have hK4 : w4.heap[D]? = some (.deferred (some [])) := (hg4.block D (Array.getElem?_eq_some_iff.1 hK3).1 (fun e => hDB (by cases e; rfl))).trans hK3
  have hrow4 := hown'.kept hg4 (ownsRow_ne_a hown' hv3 (fun cur e => by cases e))
  have hl4 : l < w4.heap.size := (Array.getElem?_eq_some_iff.1 hL4).1
  have hb3 : Below w0.heap.size w0 w3 := (hb2.alloc hb2.size _).grown hg3' (by have := hb2.size; simp; omega) (fun k e => (hrow2.lt k e).1)
  have hb4 : Below w0.heap.size w0 w4 := hb3.grown hg4 hb3.size (fun k e => by cases e; exact h0B)
  have hk4 : KeepsWalks W w4 := ((hk2.trans (KeepsWalks.alloc _ _)).trans (KeepsWalks.of_grownBy hg3' (ownsRow_not_walk_a (hrow2.alloc _)))).trans (by rw [← hw4]; exact KeepsWalks.setCell _ _ _)
  clear hw4
  refine ⟨_, _, run_endRound none hL4, rfl, ⟨⟨_, (World.putObj_heap_other hBl).trans hv4, ?_, by simp⟩, World.putObj_heap_same hl4, (World.putObj_heap_other hDl).trans hK4, hb4.grown (grownBy_putObj_a _ _ _) hb4.size (fun k e => by cases e; exact h0l)⟩, hk4.trans (KeepsWalks.putObj _ hL4 rfl)⟩
  have := hrow4.kept (grownBy_putObj_a w4 l (.loop { { apRecP fn sv Bs D .ready none with state := .busy } with state := if (none : Option Code).isNone then .ready else .done, pending := none })) (ownsRow_ne_a hrow4 hL4 (fun cur e => by cases e))
  simpa [pvs_snoc] using this


set_option maxRecDepth 100000 in
set_option maxHeartbeats 2000000 in
/-- **slices.AppendSeq(nil, seq), AGAINST WHATEVER ITERATOR VALUE THAT 'SeqGives'**: it hands back a slice that owns, in a block of the call's own, JUST WHAT THE ITERATOR GAVE, IN THAT ORDER; nil JUST WHERE IT GAVE NOTHING (as Go: 'slices.Collect' of nothing is nil); nothing that lay before the call has turned. -/
theorem appendSeqP_in (F : Fence) (n : Nat) (h11 : F.fn 214) (hro : F.round = none) (hn : 2 ≤ n) (g : Nat) (lb : Array Value) (hFg : F.fn g) (eg : ∀ args w, (callFunc g args).run Tryz.prog w = .ok (.enter g args) w)
    (S : List Pr → Prop) (N : Nat) (hN : N ≤ maxLen) (hNb : N * 24 ≤ 140737488355328) (w : World) (hseq : SeqGives F (n - 1) Tryz.prog g lb pv S N w) :
    CallsIn F n Tryz.prog 214 #[.slice none 0 0, .func (.func g) #[] lb] w fun e w' => ∃ (v : Value) (ss : List Pr), e = .returned v ∧ S ss ∧ w'.ownsRow w.heap.size 92 3 v ss.length (pvs ss) ∧ (v = .slice none 0 0 ↔ ss = []) ∧ Below w.heap.size w w' := by
  have h1 : 1 ≤ n := by omega
  refine callsIn_of_wp_marks Tryz.func214 rfl h11 ?_ hro
  simp only [Tryz.ntmps214, List.size_toArray, List.length_cons, List.length_nil, Nat.reduceAdd, Nat.reduceSub, Array.replicate_succ, Array.replicate_zero, List.push_toArray, List.append_toArray, List.nil_append, List.cons_append]
  gi_wp2
  refine wpIn_rangeFunc ?_
  intro fn hfn
  rw [hro]
  obtain ⟨W0, hW0⟩ : ∃ W0, w.alloc (.cells #[.slice none 0 0] 50) = W0 := ⟨_, rfl⟩
  have hs0 : W0.heap.size = w.heap.size + 1 := by rw [← hW0]; simp
  have hv0 : W0.heap[w.heap.size]? = some (.cells #[.slice none 0 0] 50 (0, 0)) := by rw [← hW0]; exact World.alloc_heap_new w _
  have hb0 : Below w.heap.size w W0 := by rw [← hW0]; exact (Below.refl _ w).alloc (Nat.le_refl _) _
  rw [hW0]
  obtain ⟨W1, hW1⟩ : ∃ W1, (W0.alloc (.deferred (some []))).alloc (.loop (apRecP fn (.func (.func g) #[] lb) w.heap.size W0.heap.size .ready none)) = W1 := ⟨_, rfl⟩
  have hold : ∀ k, k < W0.heap.size → W1.heap[k]? = W0.heap[k]? := fun k hk => by
    rw [← hW1]; exact (Below.heap_alloc _ _ k (by simp; omega)).trans (Below.heap_alloc _ _ k hk)
  have hb1 : Below w.heap.size w W1 := by rw [← hW1]; exact (hb0.alloc hb0.size _).alloc (by have := hb0.size; simp; omega) _
  have hs1 : W1.heap.size = W0.heap.size + 2 := by rw [← hW1]; simp
  have hM : ApAtP w fn (.func (.func g) #[] lb) w.heap.size (W0.heap.size + 1) W0.heap.size [] W1 :=
    ⟨⟨_, (hold w.heap.size (by omega)).trans hv0, ⟨rfl, .inl ⟨rfl, rfl⟩⟩, by simp⟩,
     by rw [← hW1]; have := World.alloc_heap_new (W0.alloc (.deferred (some []))) (.loop (apRecP fn (.func (.func g) #[] lb) w.heap.size W0.heap.size .ready none)); rwa [World.size_alloc] at this,
     by rw [← hW1]; exact (Below.heap_alloc _ _ _ (by simp)).trans (World.alloc_heap_new W0 _), hb1⟩
  refine ⟨W0.heap.size + 1, [{ target := .collected W0.heap.size, args := #[] }], W1, { target := .fn (.func g) lb, args := #[.func (.yield (W0.heap.size + 1)) #[] #[]] }, W1, g,
    #[.func (.yield (W0.heap.size + 1)) #[] #[]] ++ lb, W1, ?_, ?_, ?_, ?_, fun _ => h1, ?_⟩
  · rw [← hW1]; exact run_enterLoop_outer _ _ _ _ _
  · simp [resolve, go_sem]
  · intro f' hf'; simp [Target.leads] at hf'; subst hf'; exact hFg
  · simp [invoke, go_sem, eg]
  · refine (hseq (W0.heap.size + 1) (ApAtP w fn (.func (.func g) #[] lb) w.heap.size (W0.heap.size + 1) W0.heap.size) W1 hb1 (ap_abidesP _ _ _ _ _ _ _ hb1.size)
      (fun pre x W hJ hl => apYieldP F (n - 1 - 1) w fn hfn _ w.heap.size (W0.heap.size + 1) W0.heap.size (by omega) (by omega) (by omega) (Nat.le_refl _) (by omega) N hN hNb pre x W hJ hl) hM).mono ?_
    rintro e W2 ⟨⟨v0, rfl⟩, ss, hS, h2⟩
    obtain ⟨v, hv, hrow, hnil⟩ := h2.box
    have hend := run_endLoop (P := Tryz.prog) h2.L (by simp [apRecP])
    obtain ⟨W3, hW3⟩ : ∃ W3, W2.putObj (W0.heap.size + 1) (.loop { apRecP fn (.func (.func g) #[] lb) w.heap.size W0.heap.size .ready none with state := .exhausted }) = W3 := ⟨_, rfl⟩
    rw [hW3] at hend
    have hg3 : W2.grownBy W3 (some (W0.heap.size + 1)) := by rw [← hW3]; exact grownBy_putObj_a _ _ _
    have hv3 : W3.heap[w.heap.size]? = some (.cells #[v] 50 (0, 0)) := by rw [← hW3]; exact (World.putObj_heap_other (by omega)).trans hv
    have hK3 : W3.heap[W0.heap.size]? = some (.deferred (some [])) := by rw [← hW3]; exact (World.putObj_heap_other (by omega)).trans h2.K
    have hrow3 := hrow.kept hg3 (ownsRow_ne_a hrow h2.L (fun cur e => by cases e))
    have hb3 : Below w.heap.size w W3 := h2.below.grown hg3 h2.below.size (fun k e => by cases e; omega)
    obtain ⟨hc3, hf3⟩ := cell_of_box_a hv3
    clear hW3
    refine ⟨none, W3, hend, ?_⟩
    gi_wp2
    rw [← hs0]
    refine ⟨by simp, .inl ⟨_, _, rfl, run_takeDeferred hK3, ?_⟩⟩
    exact ⟨_, results_tmp rfl _ _ _, v, ss, rfl, hS, hrow3.kept (grownBy_putObj_a _ _ _) (ownsRow_ne_a hrow3 hK3 (fun cur e => by cases e)), hnil, hb3.grown (grownBy_putObj_a _ _ _) hb3.size (fun k e => by cases e; omega)⟩


set_option maxHeartbeats 1000000 in
/-- **slices.Collect(seq), AGAINST WHATEVER ITERATOR VALUE.** -/
theorem collectP_in (F : Fence) (n : Nat) (h8 : F.fn 194) (h11 : F.fn 214) (hro : F.round = none) (hn : 3 ≤ n) (g : Nat) (lb : Array Value) (hFg : F.fn g) (eg : ∀ args w, (callFunc g args).run Tryz.prog w = .ok (.enter g args) w)
    (S : List Pr → Prop) (N : Nat) (hN : N ≤ maxLen) (hNb : N * 24 ≤ 140737488355328) (w : World) (hseq : SeqGives F (n - 1 - 1) Tryz.prog g lb pv S N w) :
    CallsIn F n Tryz.prog 194 #[.func (.func g) #[] lb] w fun e w' => ∃ (v : Value) (ss : List Pr), e = .returned v ∧ S ss ∧ w'.ownsRow w.heap.size 92 3 v ss.length (pvs ss) ∧ (v = .slice none 0 0 ↔ ss = []) ∧ Below w.heap.size w w' := by
  have h1 : 1 ≤ n := by omega
  refine callsIn_of_wp Tryz.func194 rfl h8 ?_ hro
  simp only [Tryz.ntmps194, List.size_toArray, List.length_cons, List.length_nil, Nat.reduceAdd, Nat.reduceSub, Array.replicate_succ, Array.replicate_zero, List.push_toArray, List.append_toArray, List.nil_append, List.cons_append]
  gi_wp2_with (gi_at_call 214; refine (appendSeqP_in F (n - 1) h11 hro (by omega) g lb hFg eg S N hN hNb _ hseq).mono ?_; rintro e w' ⟨v, ss, rfl, hS, hrow, hnil, hb⟩)
  go_ret
  exact ⟨v, ss, rfl, hS, hrow, hnil, hb⟩


theorem values_call (mb : Option Nat) (W : World) : Calls Tryz.prog 154 #[.map mb] W fun e w' =>
    e = .returned (.func (.func 196) #[] #[.pointer (some ⟨W.heap.size, 0, none⟩)]) ∧ w' = W.alloc (.cells #[.map mb] 160) := by
  go_enter Tryz.func154, Tryz.ntmps154
  go_wp2
  go_ret
  exact ⟨rfl, rfl⟩
theorem values_gives (F : Fence) (n : Nat) (h10 : F.fn 196) (hro : F.round = none) (hn : 1 ≤ n) (Bm b : Nat) (m : List (Int × Pr)) (w : World) (hBm : Bm < w.heap.size)
    (hm : w.cell? ⟨Bm, 0, none⟩ = some (.map (some b))) (h : IMap pv w b m) (hl : m.length ≤ maxLen) :
    SeqGives F n Tryz.prog 196 #[.pointer (some ⟨Bm, 0, none⟩)] pv (fun ss => ss.Perm (m.map (·.2))) m.length w := fun l J W hW hJ hY h0 => by
  obtain ⟨D, hown, hperm, hsize, _, hat⟩ := h.ownsP (P := Tryz.prog) Tryz.underlying3 hl
  have hbl := hown.lt
  have hown' : W.ownsMap Tryz.prog 3 peerR b m.length D := by
    obtain ⟨es, clock, hb, Ft, hs, hD⟩ := hown
    exact ⟨es, clock, (hW.block b hbl).trans hb, Ft, hs, hD⟩
  refine (values1_in F n h10 hro hn l Bm b m.length D J (by rw [hsize]; exact hY) W hJ ((hW.cell (p := ⟨Bm, 0, none⟩) hBm).trans hm) hown' h0).mono ?_
  rintro e w' ⟨hv, ps, hp, hc, hJs⟩
  exact ⟨hv, _, came_perm (hp.trans hperm) hat hc, hJs⟩
set_option maxHeartbeats 1000000 in
/-- slices.Collect(maps.Values(m)). -/
theorem collect_call (b : Nat) (m : List (Int × Pr)) (w : World) (h : IMap pv w b m) (hl : m.length ≤ 1000000) :
    Calls Tryz.prog 194 #[.func (.func 196) #[] #[.pointer (some ⟨w.heap.size, 0, none⟩)]] (w.alloc (.cells #[.map (some b)] 160)) fun e w' =>
      ∃ (v : Value) (ss : List Pr), e = .returned v ∧ ss.Perm (m.map (·.2)) ∧ w'.ownsRow w.heap.size 92 3 v ss.length (pvs ss) ∧ Pure w w' := by
  have hml : m.length ≤ maxLen := by unfold maxLen; omega
  have hseq := values_gives Fence.wide 2 trivial rfl (by omega) w.heap.size b m (w.alloc (.cells #[.map (some b)] 160)) (by simp) (by simp) (h.pure ((Below.refl _ w).alloc (Nat.le_refl _) _)) hml
  have cS := collectP_in Fence.wide 4 trivial trivial rfl (by omega) 196 #[.pointer (some ⟨w.heap.size, 0, none⟩)] trivial (enters_of Tryz.func196 (by kernel_rfl) rfl) _ _ hml (by omega) _ hseq
  refine (callsIn_wide.1 cS).mono ?_
  rintro e w' ⟨v, ss, rfl, hS, hrow, _, hb⟩
  exact ⟨v, ss, rfl, hS, own_mono hrow (by simp), ((Below.refl _ w).alloc (Nat.le_refl _) _).trans (hb.mono (by simp))⟩

end Go.Proofs.YtdlpnhfgjficgaaGreat

namespace Go.Proofs.YtdlpnhfgjficgaaGreat
open Go.RowKit Go.Maps Go.Sort Go.Shelf

def pcmp (a b : Pr) : Int := Lib.compareInt a.id b.id
theorem ltof_pcmp (x y : Pr) : ltOf pcmp x y = decide (x.id < y.id) := by
  unfold ltOf pcmp Lib.compareInt
  by_cases h1 : x.id < y.id
  · simp [h1]
  · by_cases h2 : y.id < x.id <;> simp [h1, h2]
theorem swo_pcmp : SWO (ltOf pcmp) where
  irrefl x := by rw [ltof_pcmp]; simp
  trans x y z h1 h2 := by rw [ltof_pcmp, decide_eq_true_eq] at *; omega
  ntrans x y z h1 h2 := by rw [ltof_pcmp, decide_eq_false_iff_not] at *; omega
instance : Inhabited Pr := ⟨p0⟩
set_option maxHeartbeats 1000000 in
theorem pcmp_any (a b : Pr) (w : World) :
    Calls Tryz.prog 155 #[pv a, pv b] w fun e w' => e = .returned (.int .i64 (pcmp a b)) ∧ Grew w w' := by
  obtain ⟨x, y, z⟩ := a
  obtain ⟨u, v, t⟩ := b
  have hx := hid (fun W => Tryz.cmp_Compare_int x u W)
  unfold pv pcmp
  dsimp only
  generalize Lib.compareInt x u = X at *
  have Hg := hid (((Grew.refl w).alloc (.cells #[.int .i64 x, .int .i64 y, .int .i64 z] 92)).alloc (.cells #[.int .i64 u, .int .i64 v, .int .i64 t] 92))
  go_enter Tryz.func155, Tryz.ntmps155
  go_wp2_with fail
  with_reducible refine (hx.out _).mono ?_
  rintro e w1 ⟨rfl, rfl⟩
  go_wp2
  go_ret
  exact ⟨rfl, Hg.out⟩
theorem pcmpLays (blk off size : Nat) (w : World) : CmpLays Tryz.prog 155 #[] pcells 3 pcmp blk off size w :=
  fun _ _ _ _ x y => (pcmp_any x y _).mono fun _ _ ⟨he, q, os, hw⟩ => ⟨he, q, os, hw⟩
theorem flat_pvs (d : Array Pr) : (flatK pcells 3 d).toList = pvs d.toList := by
  apply List.ext_getElem?
  intro t
  by_cases ht : t < d.size * 3
  · have h1 : (flatK pcells 3 d).toList[t]? = some (pcells d[t / 3]!)[t % 3]! := by
      rw [Array.getElem?_toList, ← get_flatK pcells 3 d t ht]
      have : t < (flatK pcells 3 d).size := by simpa using ht
      rw [getElem!_pos _ t this, Array.getElem?_eq_getElem this]
    have hk : t / 3 < d.toList.length := by simp; omega
    have g := pvs_get d.toList (t / 3) hk (t % 3) (Nat.mod_lt _ (by omega))
    have hd : d.toList.getD (t / 3) p0 = d[t / 3]! := by
      have : t / 3 < d.size := by omega
      simp [List.getD, this]
    rw [hd, show t / 3 * 3 + t % 3 = t by omega] at g
    rw [h1, g]
    have hm : t % 3 = 0 ∨ t % 3 = 1 ∨ t % 3 = 2 := by omega
    rcases hm with h | h | h <;> rw [h] <;> rfl
  · rw [List.getElem?_eq_none (by simp; omega), List.getElem?_eq_none (by rw [pvs_len]; simp; omega)]
theorem holdsK_ownP {w : World} {g : Nat} {cur : Array Value} {e : TypeId} {l : List Pr} (hb : w.heap[g]? = some (.cells cur e (0, 0))) (ht : cur.toList.take (l.length * 3) = pvs l) : HoldsK pcells 3 w g 0 l.toArray := by
  intro j hj
  have hj' : j < l.length * 3 := by simpa using hj
  refine ⟨?_, by simp [World.frozen?, hb]⟩
  have h1 : (cur.toList.take (l.length * 3))[j]? = (pvs l)[j]? := by rw [ht]
  rw [List.getElem?_take_of_lt hj'] at h1
  simp only [World.cell?, hb, Nat.zero_add]
  simp only [Option.isSome_none, Bool.false_eq_true, if_false]
  rw [← Array.getElem?_toList, h1, show pvs l = (flatK pcells 3 l.toArray).toList by rw [flat_pvs]]
  rw [Array.getElem?_toList, getElem!_pos _ j hj, Array.getElem?_eq_getElem hj]; rfl
theorem sortedK_blockP {w : World} {g n : Nat} {cur : Array Value} {e : TypeId} {fr : Nat × Nat} (d : Array Pr) (os : Array Obj) (hb : w.heap[g]? = some (.cells cur e fr)) :
    (sortWorldK pcells 3 w g 0 n d os).heap[g]? = some (.cells (putCells id 0 (flatK pcells 3 d) cur) e fr) := by
  have h := heap_put (enc := id) (w := w) (n := n) (flatK pcells 3 d) hb
  unfold sortWorldK putRowK
  rw [heap_grow_old _ _ (lt_of_block h)]
  exact h
theorem sortedK_grownP {w : World} {g n : Nat} (d : Array Pr) (os : Array Obj) : w.grownBy (sortWorldK pcells 3 w g 0 n d os) (some g) := by
  have h : w.grownBy (putRowK pcells 3 (Sort.ahead w n) g 0 d) (some g) := grownBy_put (enc := id) (w := w) (g := g) (n := n) (flatK pcells 3 d)
  refine ⟨h.os, h.tape, h.output, by have := h.size; simp [sortWorldK, grow] at *; omega, fun k hk hne => ?_⟩
  rw [← h.block k hk hne]
  exact heap_grow_old _ _ (Nat.lt_of_lt_of_le hk h.size)
theorem take_putKP (cur : Array Value) (d : Array Pr) (h : d.size * 3 ≤ cur.size) : (putCells id 0 (flatK pcells 3 d) cur).toList.take (d.size * 3) = pvs d.toList := by
  have hh := take_put (enc := id) cur (flatK pcells 3 d).toList [] (by simp; omega)
  rw [List.append_nil, List.map_id, flat_pvs, pvs_len] at hh
  rw [← hh, ← flat_pvs]; simp
theorem sortedIn_pairP (d : Array Pr) (h : SortedIn (ltOf pcmp) 0 d.size d) : d.toList.Pairwise fun a b => ¬ b.id < a.id := by
  rw [List.pairwise_iff_getElem]
  intro i j hi hj hij
  have := h i j (Nat.zero_le _) hij (by simpa using hj)
  have hi' : i < d.size := by simpa using hi
  have hj' : j < d.size := by simpa using hj
  rw [ltof_pcmp, decide_eq_false_iff_not, getElem!_pos d i hi', getElem!_pos d j hj'] at this
  simpa using this

/-- slices.SortFunc of an owned row. -/
theorem sortp_own (base : Nat) (v : Value) (l : List Pr) (w : World) (h : w.ownsRow base 92 3 v l.length (pvs l)) (hl : l.length ≤ 100000) :
    Calls Tryz.prog 195 #[v, .func (.func 155) #[] #[]] w fun e w' => e = .returned (.tuple #[]) ∧ ∃ l' : List Pr, l'.Perm l ∧ l'.Pairwise (fun a b => ¬ b.id < a.id) ∧ w'.ownsRow base 92 3 v l'.length (pvs l') ∧ w.grownBy w' v.ownBlock := by
  by_cases h0 : l = []
  · subst h0
    obtain ⟨a, c, rfl⟩ := own_shape_p h
    refine (AnyF.slices_SortFunc_none { Tryz.sortP with } a c (.func (.func 155) #[] #[]) w).mono ?_
    rintro e w' ⟨rfl, rfl⟩
    exact ⟨rfl, [], List.Perm.refl _, List.Pairwise.nil, h, World.grownBy.refl _ _⟩
  · obtain ⟨hlen, ⟨rfl, h1⟩ | ⟨gb, cap, cur, rfl, hbase, hb, h1, h2, h3, h4⟩⟩ := h
    · exact absurd (List.eq_nil_of_length_eq_zero h1) h0
    · have eg : ∀ args w, (callFunc 155 args).run Tryz.prog w = .ok (.enter 155 args) w := enters_of Tryz.func155 (by kernel_rfl) rfl
      have hcon := AnyQ.slices_SortFunc Tryz.sortP 3 (fun w => Tryz.isAgg92 w) (fun w => Tryz.sizeOf92 w) pcells (fun _ => rfl) (fun x v hv => by simp [pcells] at hv; rcases hv with rfl | rfl | rfl <;> rfl) pcmp swo_pcmp 155 #[] gb 0 cap l.toArray w eg (pcmpLays gb 0 _ w) (holdsK_ownP hb h4) (lt_of_block hb) (by simp; omega)
      have esz : l.toArray.size = l.length := by simp
      rw [esz] at hcon
      refine hcon.mono ?_
      rintro e w' ⟨rfl, d', n, os, ⟨hp1, _, hp3⟩, hs, rfl⟩
      have hd : d'.size = l.length := by simpa using hp1
      have hp : d'.toList.Perm l := by
        have e1 : List.take l.length d'.toList = d'.toList := List.take_of_length_le (by simp [hd])
        have e2 : (List.take l.length d'.toList).Perm l := by simpa using hp3
        rwa [e1] at e2
      refine ⟨rfl, d'.toList, hp, sortedIn_pairP d' (by rw [hd]; exact hs), ?_, sortedK_grownP _ _⟩
      refine ⟨by rw [pvs_len], .inr ⟨gb, cap, _, ?_, hbase, sortedK_blockP _ _ hb, by simp; omega, h2, by simp [putCells, h3], ?_⟩⟩
      · simp [hd]
      · have e : d'.toList.length = d'.size := by simp
        rw [e]; exact take_putKP cur d' (by rw [hd, h3]; exact Nat.mul_le_mul_right _ h1)

set_option maxHeartbeats 1000000 in
/-- slices.SortedFunc(maps.Values(m), by ID). -/
theorem sortedfunc_call (b : Nat) (m : List (Int × Pr)) (w : World) (h : IMap pv w b m) (hl : m.length ≤ 100000) :
    Calls Tryz.prog 153 #[.func (.func 196) #[] #[.pointer (some ⟨w.heap.size, 0, none⟩)], .func (.func 155) #[] #[]] (w.alloc (.cells #[.map (some b)] 160)) fun e w' =>
      ∃ (v : Value) (l : List Pr), e = .returned v ∧ l.Perm (m.map (·.2)) ∧ l.Pairwise (fun a b => ¬ b.id < a.id) ∧ w'.ownsRow w.heap.size 92 3 v l.length (pvs l) ∧ Pure w w' := by
  have hc := hid (collect_call b m w h (by omega))
  have hlen := hid (fun (ss : List Pr) (hp : ss.Perm (m.map (·.2))) => (show ss.length ≤ 100000 by rw [hp.length_eq]; simp; omega))
  clear h hl
  go_enter Tryz.func153, Tryz.ntmps153
  go_wp2_with fail
  refine hc.out.mono ?_
  rintro e w1 ⟨v1, ss, rfl, hp, hown, hpu⟩
  have Hown := hid hown
  have Hp := hid hp
  have Hpu := hid hpu
  have hs := hid (sortp_own w.heap.size v1 ss w1 hown (hlen.out _ hp))
  clear hown hp hpu
  go_wp2_with fail
  refine hs.out.mono ?_
  rintro e w2 ⟨rfl, l', hp', hpw, hown', hg⟩
  have H2 := hid (And.intro hown' (And.intro hpw (hp'.trans Hp.out)))
  have Hpu2 := hid (Hpu.out.grown hg Hpu.out.size (fun k hk => (Hown.out.lt k hk).1))
  clear hown' hg hp' hpw
  go_wp2
  go_ret
  exact ⟨_, rfl, _, H2.out.2.2, H2.out.2.1, H2.out.1, Hpu2.out⟩
end Go.Proofs.YtdlpnhfgjficgaaGreat

namespace Go.Proofs.YtdlpnhfgjficgaaGreat
open Go.RowKit Go.Maps Go.MapKept

theorem zeroCells_size3p (n : Nat) : (Builtin.zeroCells (Value.agg #[.int .i64 0, .int .i64 0, .int .i64 0]).cells n).size = n * 3 := by simp [Builtin.zeroCells, Value.cells]; try omega
theorem growp_any (n : Nat) (w : World) (hn : n ≤ 1000000) :
    Calls Tryz.prog 193 #[.slice none 0 0, .int .i64 n] w fun e w' => ∃ v, e = .returned v ∧ w'.ownsRow w.heap.size 92 3 v 0 [] ∧ Pure w w' := by
  obtain ⟨i0, hi, hz0, hz1, hz2⟩ := info_parts infoPeer
  rcases Nat.eq_zero_or_pos n with rfl | h
  · refine (Any8.slices_Grow_room Tryz.growP none 0 0 0 w (by omega) (by omega) (by omega) (by omega)).mono ?_
    rintro e w' ⟨rfl, rfl⟩
    exact ⟨_, rfl, World.ownsRow_nil _ _ _ _, Below.refl _ _⟩
  · refine (Any8.slices_Grow_grow Tryz.growP i0 (.agg #[.int .i64 0, .int .i64 0, .int .i64 0]) hi hz0 (by rw [hz1]; decide) none 0 0 n [] w (by omega) (by omega) (by rw [hz2]; omega) (by omega) (by simp) (fun _ => rfl) (fun a h => by cases h)).mono ?_
    rintro e w' ⟨rfl, rfl⟩
    refine ⟨_, rfl, ?_, (Below.refl _ _).drew.alloc (Nat.le_refl _) _⟩
    have hle := grownCap_ge w (0 + n) 0 (Tryz.growP_ren.t 25)
    refine World.ownsRow_made w.drew _ _ (Nat.le_refl _) (grownCap_le_maxLen w _ _ _ (by unfold maxLen; omega)) ?_
    rw [Array.size_append, Array.size_append, zeroCells_size3p, zeroCells_size3p]
    show 0 + (0 + n - 0) * 3 + (grownCap w (0 + n) 0 (Tryz.growP_ren.t 25) - (0 + n)) * 3 = grownCap w (0 + n) 0 (Tryz.growP_ren.t 25) * 3
    omega
def catp (l1 l2 : List Pr) (k : Nat) : List Pr := if k = 0 then [] else if k = 1 then l1 else l1 ++ l2
set_option maxRecDepth 8000 in
set_option maxHeartbeats 4000000 in
theorem concatp_any (bb cp : Nat) (v1 v2 : Value) (l1 l2 : List Pr) (w : World) (c1 : w.cell? ⟨bb, 0, none⟩ = some v1) (c2 : w.cell? ⟨bb, 1, none⟩ = some v2) (h1 : Peers w v1 l1) (h2 : Peers w v2 l2) (hl1 : l1.length ≤ 100000) (hl2 : l2.length ≤ 100000) (hbb : bb < w.heap.size) :
    Calls Tryz.prog 152 #[.slice (some ⟨bb, 0, none⟩) 2 cp] w fun e w' => ∃ v', e = .returned v' ∧ w'.ownsRow w.heap.size 92 3 v' (l1 ++ l2).length (pvs (l1 ++ l2)) ∧ Pure w w' := by
  obtain ⟨i0, hi, hz0, hz1, hz2⟩ := info_parts infoPeer
  obtain ⟨a1, q1, rfl⟩ := Peers.shape h1
  obtain ⟨a2, q2, rfl⟩ := Peers.shape h2
  have H1 := hid h1
  have H2 := hid h2
  have hC := hid (fun W (hW : Pure w W) => (show W.cell? ⟨bb, 0, none⟩ = some (.slice a1 l1.length q1) ∧ W.cell? ⟨bb, 1, none⟩ = some (.slice a2 l2.length q2) from ⟨(hW.cell (p := ⟨bb, 0, none⟩) hbb).trans c1, (hW.cell (p := ⟨bb, 1, none⟩) hbb).trans c2⟩))
  have Hg := hid (growp_any (l1.length + l2.length) w (by omega))
  clear h1 h2 hbb
  go_enter Tryz.func152, Tryz.ntmps152
  go_wp2
  go_loop [3, 5, 11] (fun s _ i => (i = .int .i64 0 ∧ s = .int .i64 0) ∨ (i = .int .i64 1 ∧ s = .int .i64 (l1.length : Int)) ∨ (i = .int .i64 2 ∧ s = .int .i64 ((l1.length + l2.length : Nat) : Int))) (fun _ _ i => 2 - (RowKit.intOf i).toNat)
  case atStart => exact .inl ⟨rfl, rfl⟩
  case round =>
    rcases hrel with ⟨rfl, rfl⟩ | ⟨rfl, rfl⟩ | ⟨rfl, rfl⟩
    · have hs : ¬ (l1.length : Int) < 0 := by omega
      go_wp2
      go_round
      case rel => exact .inr (.inl ⟨rfl, rfl⟩)
      case measure => simp [RowKit.intOf]
    · have hs : ¬ ((l1.length : Int) + (l2.length : Int)) < 0 := by omega
      go_wp2
      go_round
      case rel => exact .inr (.inr ⟨rfl, by simp⟩)
      case measure => simp [RowKit.intOf]
    · go_wp2_with fail
      refine Hg.out.mono ?_
      rintro e w1 ⟨v1, rfl, hown, hp⟩
      have Hown := hid hown
      have Hp := hid hp
      obtain ⟨a3, q3, rfl⟩ := own_shape_p hown
      clear hown hp c1 c2
      go_wp2
      go_loopw [6, 8, 27] (fun o _ i wr => ∃ (k : Nat), k ≤ 2 ∧ i = .int .i64 k ∧ wr.ownsRow w.heap.size 92 3 o (catp l1 l2 k).length (pvs (catp l1 l2 k)) ∧ Pure w wr) (fun _ _ i _ => 2 - (RowKit.intOf i).toNat)
      case atStart => exact ⟨0, by omega, rfl, Hown.out, Hp.out⟩
      case round =>
        obtain ⟨k, hk, rfl, hown, hp⟩ := hrel
        obtain ⟨c1, c2⟩ := hC.out wr hp
        have Hp := hid hp
        by_cases h0 : k = 0
        · subst h0
          have Hown := hid hown
          obtain ⟨a4, q4, rfl⟩ := own_shape_p hown
          clear hown hp
          go_wp2_with (at_builtin; refine wpList_append_rows rfl _ _ 50 rfl w.heap.size 92 i0 (.agg #[.int .i64 0, .int .i64 0, .int .i64 0]) 3 24 Tryz.underlying50 hi hz0 hz1 hz2 rfl (by decide) (by decide) (.slice a4 0 q4) 0 [] rfl Hown.out _ l1.length (pvs l1) rfl (Row.pure H1.out Hp.out) (fun u hu => pvs_one _ u hu) (by omega) Hp.out.size ?_)
          intro v3 w3 hown3 hg3
          have Hown3 := hid hown3
          have Hp3 := hid (Hp.out.grown hg3 Hp.out.size (fun k hk => (Hown.out.lt k hk).1))
          obtain ⟨a5, q5, rfl⟩ := own_shape_p hown3
          clear hown3 hg3
          go_wp2
          go_roundw
          case rel => exact ⟨1, by omega, rfl, by simpa [catp, pvs_append] using Hown3.out, Hp3.out⟩
          case measure => simp [RowKit.intOf]
        · by_cases h1 : k = 1
          · subst h1
            have Hown := hid (show wr.ownsRow w.heap.size 92 3 u6 l1.length (pvs l1) from hown)
            obtain ⟨a4, q4, rfl⟩ := own_shape_p hown
            clear hown hp
            go_wp2_with (at_builtin; refine wpList_append_rows rfl _ _ 50 rfl w.heap.size 92 i0 (.agg #[.int .i64 0, .int .i64 0, .int .i64 0]) 3 24 Tryz.underlying50 hi hz0 hz1 hz2 rfl (by decide) (by decide) (.slice a4 l1.length q4) l1.length (pvs l1) rfl Hown.out _ l2.length (pvs l2) rfl (Row.pure H2.out Hp.out) (fun u hu => pvs_one _ u hu) (by omega) Hp.out.size ?_)
            intro v3 w3 hown3 hg3
            have Hown3 := hid hown3
            have Hp3 := hid (Hp.out.grown hg3 Hp.out.size (fun k hk => (Hown.out.lt k hk).1))
            obtain ⟨a5, q5, rfl⟩ := own_shape_p hown3
            clear hown3 hg3
            go_wp2
            go_roundw
            case rel => exact ⟨2, by omega, rfl, by simpa [catp, pvs_append] using Hown3.out, Hp3.out⟩
            case measure => simp [RowKit.intOf]
          · obtain rfl : k = 2 := by omega
            have Hown := hid (show wr.ownsRow w.heap.size 92 3 u6 (l1 ++ l2).length (pvs (l1 ++ l2)) from hown)
            obtain ⟨a4, q4, rfl⟩ := own_shape_p Hown.out
            clear hown hp
            go_wp2
            go_ret
            exact ⟨_, rfl, Hown.out, Hp.out⟩
end Go.Proofs.YtdlpnhfgjficgaaGreat

