/- sift: Nodes, Differ. sift: mark, Marks. law06: awake. law06: a plan's bag, as data; ref05's Put of a name that was seen. -/
import Derived.Test.YtbcbmnifbflmaaaGreatMSa
import Derived.Test.YtbcbmnifbflmaaaGreatMEq
import Derived.WalkMore
import Derived.Test.YtbcbmnifbflmaaaGreatMBy
namespace Go.Proofs.YtbcbmnifbflmaaaGreat
open Go.RowKit Go.Maps Go.Shelf Go.Sort

theorem bbox1 (w : World) (a0 a1 a2 : Value) : ∃ wz, wz = w.alloc (.cells #[a0, a1, a2] 33) ∧ Hid (Pure w wz) ∧ Hid (∀ W, Pure wz W → (W.cell? ⟨w.heap.size, 0, none⟩ = some a0 ∧ W.cell? ⟨w.heap.size, 1, none⟩ = some a1 ∧ W.cell? ⟨w.heap.size, 2, none⟩ = some a2 ∧ Pure wz W)) := by
  refine ⟨_, rfl, (Below.refl _ _).alloc (Nat.le_refl _) _, fun W hW => ?_⟩
  have e0 := (hW.block _ (lt_of_block (block_alloc_new w (.cells #[a0, a1, a2] 33)))).trans (block_alloc_new w (.cells #[a0, a1, a2] 33))
  exact ⟨cell_of_block e0 0, cell_of_block e0 1, cell_of_block e0 2, hW⟩
theorem bbox2 (w : World) (a0 a1 a2 b0 b1 b2 : Value) : ∃ wz, wz = (w.alloc (.cells #[a0, a1, a2] 33)).alloc (.cells #[b0, b1, b2] 33) ∧ Hid (Pure w wz) ∧ Hid (∀ W, Pure wz W → (W.cell? ⟨w.heap.size, 0, none⟩ = some a0 ∧ W.cell? ⟨w.heap.size, 1, none⟩ = some a1 ∧ W.cell? ⟨w.heap.size, 2, none⟩ = some a2 ∧ W.cell? ⟨w.heap.size + 1, 0, none⟩ = some b0 ∧ W.cell? ⟨w.heap.size + 1, 1, none⟩ = some b1 ∧ W.cell? ⟨w.heap.size + 1, 2, none⟩ = some b2 ∧ Pure wz W)) := by
  refine ⟨_, rfl, ((Below.refl _ _).alloc (Nat.le_refl _) _).alloc (by simp) _, fun W hW => ?_⟩
  have n1 := block_alloc_new (w.alloc (.cells #[a0, a1, a2] 33)) (.cells #[b0, b1, b2] 33)
  have n0 := block_alloc_old (block_alloc_new w (.cells #[a0, a1, a2] 33)) (.cells #[b0, b1, b2] 33)
  rw [World.size_alloc] at n1
  have e0 := (hW.block _ (lt_of_block n0)).trans n0
  have e1 := (hW.block _ (lt_of_block n1)).trans n1
  exact ⟨cell_of_block e0 0, cell_of_block e0 1, cell_of_block e0 2, cell_of_block e1 0, cell_of_block e1 1, cell_of_block e1 2, hW⟩
/-- Numbers that were handed back, in memory of the call's own. -/
def IntsO (w : World) (l : List Int) (e : Ending) (w' : World) : Prop := ∃ v', e = .returned v' ∧ w'.ownsRow w.heap.size 3 1 v' l.length (l.map (Value.int .i64)) ∧ Pure w w'
section
variable {v0 v1 v2 u0 u1 u2 : Value} {g h : Bag} {U V : List Dot} {W : World}
theorem sameG (hr : BR3 v0 v1 v2 g W) (hs : BR3 u0 u1 u2 h W) : Calls Tryz.prog 31 #[.agg #[v0, v1, v2], .agg #[u0, u1, u2]] W fun e w' => e = .returned (.bool (decide (g = h))) ∧ Pure W w' := mbsame_any _ _ g h W hr.at hs.at
theorem rsameG (hr : BR3 v0 v1 v2 g W) (hs : BR3 u0 u1 u2 h W) : Calls Tryz.prog 21 #[.agg #[v0, v1, v2], .agg #[u0, u1, u2]] W fun e w' => e = .returned (.bool (decide (g = h))) ∧ Pure W w' := rbsame_any _ _ g h W hr.at hs.at
theorem cnodesG {X : List Dot × List Dot} {m : Nat} (h0 : Dots W v0 X.1) (h1 : Dots W v1 X.2) (sx : Sml m X) (hm : m ≤ 100000) : Calls Tryz.prog 89 #[.agg #[v0, v1]] W (IntsO W (cnodes X.1 X.2)) :=
  nodes_any v0 v1 X.1 X.2 W h0 h1 (Nat.le_trans sx.l0 hm) (Nat.le_trans sx.l1 hm) (fun d hd => by rcases List.mem_append.1 hd with hd | hd; exact sx.j.wb d hd; exact sx.j.wc d hd)
end

theorem ifilt_take (p : Int → Bool) (l : List Int) (k : Nat) (h : k < l.length) : (l.take (k + 1)).filter p = (l.take k).filter p ++ if p (l.getD k 0) then [l.getD k 0] else [] := by
  rw [take_succ_get l k h, List.filter_append]; simp [List.filter_cons]

end Go.Proofs.YtbcbmnifbflmaaaGreat

namespace Go.Proofs.YtbcbmnifbflmaaaGreat
open Go.RowKit Go.Maps Go.Shelf Go.Sort

/-- Rows of texts. -/
def svs (l : List (List UInt8)) : List Value := l.map fun s => .string (bs s)
def Strs (w : World) (v : Value) (l : List (List UInt8)) : Prop := Row w v l.length 1 (svs l)
theorem Strs.shape {w : World} {v : Value} {l : List (List UInt8)} (h : Strs w v l) : ∃ a cap, v = .slice a l.length cap := Row.shape h
theorem Strs.get {w : World} {a : Option Addr} {n cap : Nat} {l : List (List UInt8)} (h : Strs w (.slice a n cap) l) {k : Nat} (hk : k < l.length) :
    ∃ b off, a = some ⟨b, off, none⟩ ∧ b < w.heap.size ∧ w.cell? ⟨b, off + k, none⟩ = some (.string (bs (l.getD k []))) := by
  have e : n = l.length := by obtain ⟨a', c', e⟩ := h.shape; injection e
  subst e
  obtain ⟨b, off, e, hb, hc⟩ := Row.elem h hk
  refine ⟨b, off, e, hb, ?_⟩
  have := hc 0 (by omega)
  simp only [Nat.mul_one, Nat.add_zero] at this
  rw [this]
  simp [svs, List.getD, hk]
theorem take_succ_s (l : List (List UInt8)) (k : Nat) (h : k < l.length) : l.take (k + 1) = l.take k ++ [l.getD k []] := by
  rw [List.take_succ_eq_append_getElem h]; simp [List.getD, h]
def StrsO (w : World) (l : List (List UInt8)) (e : Ending) (w' : World) : Prop := ∃ v', e = .returned v' ∧ w'.ownsRow w.heap.size 9 1 v' l.length (svs l) ∧ Pure w w'
theorem svs_append (l k : List (List UInt8)) : svs (l ++ k) = svs l ++ svs k := by simp [svs]
theorem svs_one (l : List (List UInt8)) : ∀ u ∈ svs l, u.oneCell' = true := by
  intro u hu
  simp only [svs, List.mem_map] at hu
  obtain ⟨s, _, rfl⟩ := hu
  rfl
theorem infoStr : (Tryz.prog.info? 9).map (fun i => (i.zero, i.size, i.bytes)) = some (some (.string ⟨#[]⟩), 1, 16) := by kernel_rfl
theorem strs_lit (w : World) (s : List UInt8) : Row (w.alloc (.cells #[.string (bs s)] 9)) (.slice (some ⟨w.heap.size, 0, none⟩) 1 1) 1 1 (svs [s]) := by
  refine ⟨rfl, _, _, rfl, Nat.le_refl _, by unfold maxLen; omega, .inr ⟨_, _, rfl, by simp, fun i hi => ?_⟩⟩
  rw [Nat.zero_add, World.cell?_alloc_new]
  simp [svs]

theorem map_take {α : Type} (f : Int → α) (l : List Int) (k : Nat) (h : k < l.length) : (l.take (k + 1)).map f = (l.take k).map f ++ [f (l.getD k 0)] := by
  rw [take_succ_get l k h]; simp
end Go.Proofs.YtbcbmnifbflmaaaGreat

namespace Go.Proofs.YtbcbmnifbflmaaaGreat
open Go.RowKit Go.Maps Go.Shelf Go.Sort

def am : Msg := ((1, 1), [113], [], 0)
def ag : Bag := ([am], [(1, 1)], [])
theorem ag_put : bput ([], [], []) am = ag := by decide
theorem ag_ok : BOk [(1, 1)] ag := by rw [← ag_put]; exact (BOk.nil _).put (by decide) (by decide) (by decide)
theorem ag_part : bpart ag 1 = ag := by decide
theorem ag_nodes : cnodes ag.2.1 ag.2.2 = [1] := by decide
theorem ag_marks : bmarks ag = [bagB ag] := by
  unfold bmarks; rw [ag_nodes]
  show [bmark ag 1] = _
  unfold bmark; rw [ag_part]
theorem ag_differ : bdiffer ag ag = [] := List.eq_nil_of_length_eq_zero (by have := bdiffer_nil ag_ok ag_ok; simpa using this)
theorem nil_marks : bmarks ([], [], []) = [] := by decide

end Go.Proofs.YtbcbmnifbflmaaaGreat

namespace Go.Proofs.YtbcbmnifbflmaaaGreat
open Go.RowKit Go.Maps Go.Shelf Go.Sort

theorem and_le (n : Int) (k : Nat) (hk : k < 1000000) : 0 ≤ bits .and .i64 n k ∧ bits .and .i64 n k ≤ k := by
  show 0 ≤ IntKind.i64.wrap ((BitVec.ofInt 64 n &&& BitVec.ofInt 64 k).toNat : Int) ∧ IntKind.i64.wrap ((BitVec.ofInt 64 n &&& BitVec.ofInt 64 k).toNat : Int) ≤ k
  have hx : (BitVec.ofInt 64 n &&& BitVec.ofInt 64 k).toNat ≤ k := by
    rw [BitVec.toNat_and]
    refine Nat.le_trans Nat.and_le_right ?_
    rw [BitVec.toNat_ofInt]; omega
  rw [IntWalk.i64_in _ (by omega)]
  omega
def pname (d : Dot) : Dot := (1 + bits .and .i64 d.1 3, 1 + bits .and .i64 d.2 15)
def pmsg (m : Msg) : Msg := (pname m.1, [113], m.2.2.1.take 5, bits .and .i64 m.2.2.2 255)
def U64 : List Dot := (List.range 4).flatMap fun (a : Nat) => (List.range 16).map fun (b : Nat) => (1 + (a : Int), 1 + (b : Int))
theorem pname_mem (d : Dot) : pname d ∈ U64 := by
  have h1 : 0 ≤ bits .and .i64 d.1 3 ∧ bits .and .i64 d.1 3 ≤ 3 := and_le d.1 3 (by decide)
  have h2 : 0 ≤ bits .and .i64 d.2 15 ∧ bits .and .i64 d.2 15 ≤ 15 := and_le d.2 15 (by decide)
  unfold U64 pname
  rw [List.mem_flatMap]
  refine ⟨(bits .and .i64 d.1 3).toNat, List.mem_range.2 (by omega), List.mem_map.2 ⟨(bits .and .i64 d.2 15).toNat, List.mem_range.2 (by omega), ?_⟩⟩
  rw [Int.toNat_of_nonneg h1.1, Int.toNat_of_nonneg h2.1]
theorem U64_len : U64.length = 64 := by decide
theorem pname_chk (d : Dot) : dchk (pname d) = true := by
  have h1 : 0 ≤ bits .and .i64 d.1 3 ∧ bits .and .i64 d.1 3 ≤ 3 := and_le d.1 3 (by decide)
  have h2 : 0 ≤ bits .and .i64 d.2 15 ∧ bits .and .i64 d.2 15 ≤ 15 := and_le d.2 15 (by decide)
  rw [dchk_iff]; unfold dok pname; dsimp only; omega
theorem pmsg_may (m : Msg) : mmay (pmsg m) = true := by
  have h : 0 ≤ bits .and .i64 m.2.2.2 255 ∧ bits .and .i64 m.2.2.2 255 ≤ 255 := and_le m.2.2.2 255 (by decide)
  have hc := pname_chk m.1
  unfold mmay pmsg
  dsimp only
  rw [hc]
  have hl : (m.2.2.1.take 5).length ≤ 5 := by rw [List.length_take]; omega
  simp only [List.length_cons, List.length_nil, Bool.true_and, Bool.and_eq_true, decide_eq_true_eq]
  omega
def pput (g : Bag) (m : Msg) : Bag := if chas g.2.1 g.2.2 m.1 then g else bput g m
def pstep (g : Bag) (m : Msg) (b : Bool) : Bag := if b then bremove (pput g (pmsg m)) (pname m.1) else pput g (pmsg m)
def planK (M : List Msg) (G : List Bool) : Nat → Bag
  | 0 => ([], [], [])
  | k + 1 => pstep (planK M G k) (M.getD k m0) (G.getD k false)
def planB (M : List Msg) (G : List Bool) : Bag := planK M G (min M.length 12)
theorem pput_ok {g : Bag} (h : BOk U64 g) (m : Msg) : BOk U64 (pput g (pmsg m)) := by
  unfold pput
  split
  · exact h
  · rename_i hn
    exact h.put (pmsg_may m) (pname_mem m.1) (by simpa using hn)
theorem pstep_ok {g : Bag} (h : BOk U64 g) (m : Msg) (b : Bool) : BOk U64 (pstep g m b) := by
  unfold pstep
  split
  · exact (pput_ok h m).remove (pname_mem m.1)
  · exact pput_ok h m
theorem planK_ok (M : List Msg) (G : List Bool) : ∀ k, BOk U64 (planK M G k)
  | 0 => BOk.nil _
  | k + 1 => pstep_ok (planK_ok M G k) _ _
theorem planB_ok (M : List Msg) (G : List Bool) : BOk U64 (planB M G) := planK_ok M G _

set_option maxRecDepth 8000 in
set_option maxHeartbeats 4000000 in
theorem rput_seen (v0 v1 v2 : Value) (g : Bag) (m : Msg) (w : World) (hr : BR3 v0 v1 v2 g w) (hm : mmay m = true) (hn : chas g.2.1 g.2.2 m.1 = true) :
    Calls Tryz.prog 20 #[.agg #[v0, v1, v2], mv m] w (BagT w ([], [], []) 13) := by
  obtain ⟨L, B, C⟩ := g
  dsimp only at hn
  obtain ⟨h0, h1, h2⟩ := hr
  dsimp only at h0 h1 h2
  have hmay := hid (fun W => (show Calls _ _ _ _ _ from by have := rmay_any m W; rw [hm] at this; exact this))
  obtain ⟨⟨x, y⟩, q, b, c⟩ := m
  obtain ⟨wz, hwz⟩ : ∃ wz, wz = ((w.alloc (.cells #[v0, v1, v2] 33)).alloc (.cells #[.int .i64 x, .int .i64 y, .string (bs q), .string (bs b), .int .i64 c] 41)).alloc (.cells #[.slice none 0 0, .slice none 0 0, .slice none 0 0] 33) := ⟨_, rfl⟩
  have Hpz := hid (show Pure w wz from by rw [hwz]; exact (((Below.refl _ _).alloc (Nat.le_refl _) _).alloc (by simp) _).alloc (by simp; omega) _)
  have n1 := block_alloc_new (w.alloc (.cells #[v0, v1, v2] 33)) (.cells #[.int .i64 x, .int .i64 y, .string (bs q), .string (bs b), .int .i64 c] 41)
  have n2 := block_alloc_new ((w.alloc (.cells #[v0, v1, v2] 33)).alloc (.cells #[.int .i64 x, .int .i64 y, .string (bs q), .string (bs b), .int .i64 c] 41)) (.cells #[.slice none 0 0, .slice none 0 0, .slice none 0 0] 33)
  simp only [World.size_alloc] at n1 n2
  have hbk : Hid (wz.heap[w.heap.size]? = some (.cells #[v0, v1, v2] 33 (0, 0)) ∧ wz.heap[w.heap.size + 1]? = some (.cells #[.int .i64 x, .int .i64 y, .string (bs q), .string (bs b), .int .i64 c] 41 (0, 0)) ∧ RsB (w.heap.size + 1 + 1) wz) := by
    show _ ∧ _ ∧ wz.heap[w.heap.size + 1 + 1]? = _
    rw [hwz]
    exact ⟨block_alloc_old (block_alloc_old (block_alloc_new _ _) _) _, block_alloc_old n1 _, n2⟩
  clear n1 n2
  have hBox : Hid (∀ W, Pure wz W → (W.cell? ⟨w.heap.size, 1, none⟩ = some v1 ∧ W.cell? ⟨w.heap.size, 2, none⟩ = some v2 ∧ (W.cell? ⟨w.heap.size + 1, 0, none⟩ = some (.int .i64 x) ∧ W.cell? ⟨w.heap.size + 1, 1, none⟩ = some (.int .i64 y) ∧ W.cell? ⟨w.heap.size + 1, 2, none⟩ = some (.string (bs q)) ∧ W.cell? ⟨w.heap.size + 1, 3, none⟩ = some (.string (bs b)) ∧ W.cell? ⟨w.heap.size + 1, 4, none⟩ = some (.int .i64 c)) ∧ RsB (w.heap.size + 1 + 1) W)) := fun W hW => by
    have e0 := (hW.block _ (lt_of_block hbk.out.1)).trans hbk.out.1
    have e1 := (hW.block _ (lt_of_block hbk.out.2.1)).trans hbk.out.2.1
    have e2 := (hW.block _ (lt_of_block hbk.out.2.2)).trans hbk.out.2.2
    exact ⟨cell_of_block e0 1, cell_of_block e0 2, ⟨cell_of_block e1 0, cell_of_block e1 1, cell_of_block e1 2, cell_of_block e1 3, cell_of_block e1 4⟩, e2⟩
  have hhas := hid (fun W (hW : Pure wz W) => (show Calls _ _ _ _ _ from by have := rchas_any _ _ B C (x, y) W (Row.pure h1 (Hpz.out.then_ hW)) (Row.pure h2 (Hpz.out.then_ hW)); rw [hn] at this; exact this))
  unfold mv at *
  unfold dv at hhas
  dsimp only at hmay hhas ⊢
  clear h0 h1 h2 hm hn
  go_enter Tryz.func20, Tryz.ntmps20
  go_wp2_with fail
  rw [← hwz]
  clear hwz
  obtain ⟨f1, f2, ⟨g0, g1, g2, g3, g4⟩, -⟩ := hBox.out wz (Below.refl _ _)
  go_wp2_with fail
  refine (hmay.out wz).mono ?_
  rintro e w1 ⟨rfl, hp1⟩
  clear f1 f2 g0 g1 g2 g3 g4
  obtain ⟨f1, f2, ⟨g0, g1, g2, g3, g4⟩, -⟩ := hBox.out w1 hp1
  have Hp1 := hid hp1
  clear hp1
  go_wp2_with fail
  refine (hhas.out w1 Hp1.out).mono ?_
  rintro e w2 ⟨rfl, hp2⟩
  have Hp2 := hid (Hp1.out.then_ hp2)
  clear f1 f2 g0 g1 g2 g3 g4 hp2
  obtain ⟨-, -, -, hR⟩ := hBox.out w2 Hp2.out
  obtain ⟨r0, r1, r2, r3, r4, r5⟩ := hR.cells
  obtain ⟨t0, t1, t2, hfin⟩ := bag_ret (w := w) (g := ([], [], [])) hR (by omega) (Hpz.out.then_ Hp2.out) (BR3.nil w2) (BFr.nil _)
  have T0 := hid t0
  have T1 := hid t1
  have T2 := hid t2
  have Hfin := hid (hfin.tup 13)
  clear t0 t1 t2 hfin hR
  go_wp2
  exact bodyPost_ret (v := .tuple #[.agg #[.slice none 0 0, .slice none 0 0, .slice none 0 0], .int .i64 13]) (by simp [results, Tryz.results20, go_sem, T0.out, T1.out, T2.out]) rfl Hfin.out
end Go.Proofs.YtbcbmnifbflmaaaGreat

