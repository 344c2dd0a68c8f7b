/- sift: Nodes, Differ. sift: mark, Marks. -/
import Derived.Test.YtdlpnhfgjficgaaGreatMSa
import Derived.Test.YtdlpnhfgjficgaaGreatMEq
import Derived.WalkMore
import Derived.Test.YtdlpnhfgjficgaaGreatMBy
namespace Go.Proofs.YtdlpnhfgjficgaaGreat
open Go.RowKit Go.Maps Go.Shelf Go.Sort

theorem bbox1 (w : World) (a0 a1 a2 : Value) : ∃ wz, wz = w.alloc (.cells #[a0, a1, a2] 34) ∧ Hid (Pure w wz) ∧ Hid (∀ W, Pure wz W → (W.cell? ⟨w.heap.size, 0, none⟩ = some a0 ∧ W.cell? ⟨w.heap.size, 1, none⟩ = some a1 ∧ W.cell? ⟨w.heap.size, 2, none⟩ = some a2 ∧ Pure wz W)) := by
  refine ⟨_, rfl, (Below.refl _ _).alloc (Nat.le_refl _) _, fun W hW => ?_⟩
  have e0 := (hW.block _ (lt_of_block (block_alloc_new w (.cells #[a0, a1, a2] 34)))).trans (block_alloc_new w (.cells #[a0, a1, a2] 34))
  exact ⟨cell_of_block e0 0, cell_of_block e0 1, cell_of_block e0 2, hW⟩
theorem bbox2 (w : World) (a0 a1 a2 b0 b1 b2 : Value) : ∃ wz, wz = (w.alloc (.cells #[a0, a1, a2] 34)).alloc (.cells #[b0, b1, b2] 34) ∧ Hid (Pure w wz) ∧ Hid (∀ W, Pure wz W → (W.cell? ⟨w.heap.size, 0, none⟩ = some a0 ∧ W.cell? ⟨w.heap.size, 1, none⟩ = some a1 ∧ W.cell? ⟨w.heap.size, 2, none⟩ = some a2 ∧ W.cell? ⟨w.heap.size + 1, 0, none⟩ = some b0 ∧ W.cell? ⟨w.heap.size + 1, 1, none⟩ = some b1 ∧ W.cell? ⟨w.heap.size + 1, 2, none⟩ = some b2 ∧ Pure wz W)) := by
  refine ⟨_, rfl, ((Below.refl _ _).alloc (Nat.le_refl _) _).alloc (by simp) _, fun W hW => ?_⟩
  have n1 := block_alloc_new (w.alloc (.cells #[a0, a1, a2] 34)) (.cells #[b0, b1, b2] 34)
  have n0 := block_alloc_old (block_alloc_new w (.cells #[a0, a1, a2] 34)) (.cells #[b0, b1, b2] 34)
  rw [World.size_alloc] at n1
  have e0 := (hW.block _ (lt_of_block n0)).trans n0
  have e1 := (hW.block _ (lt_of_block n1)).trans n1
  exact ⟨cell_of_block e0 0, cell_of_block e0 1, cell_of_block e0 2, cell_of_block e1 0, cell_of_block e1 1, cell_of_block e1 2, hW⟩
/-- Numbers that were handed back, in memory of the call's own. -/
def IntsO (w : World) (l : List Int) (e : Ending) (w' : World) : Prop := ∃ v', e = .returned v' ∧ w'.ownsRow w.heap.size 3 1 v' l.length (l.map (Value.int .i64)) ∧ Pure w w'
section
variable {v0 v1 v2 u0 u1 u2 : Value} {g h : Bag} {U V : List Dot} {W : World}
theorem sameG (hr : BR3 v0 v1 v2 g W) (hs : BR3 u0 u1 u2 h W) : Calls Tryz.prog 76 #[.agg #[v0, v1, v2], .agg #[u0, u1, u2]] W fun e w' => e = .returned (.bool (decide (g = h))) ∧ Pure W w' := mbsame_any _ _ g h W hr.at hs.at
theorem rsameG (hr : BR3 v0 v1 v2 g W) (hs : BR3 u0 u1 u2 h W) : Calls Tryz.prog 78 #[.agg #[v0, v1, v2], .agg #[u0, u1, u2]] W fun e w' => e = .returned (.bool (decide (g = h))) ∧ Pure W w' := rbsame_any _ _ g h W hr.at hs.at
theorem cnodesG {X : List Dot × List Dot} {m : Nat} (h0 : Dots W v0 X.1) (h1 : Dots W v1 X.2) (sx : Sml m X) (hm : m ≤ 100000) : Calls Tryz.prog 185 #[.agg #[v0, v1]] W (IntsO W (cnodes X.1 X.2)) :=
  nodes_any v0 v1 X.1 X.2 W h0 h1 (Nat.le_trans sx.l0 hm) (Nat.le_trans sx.l1 hm) (fun d hd => by rcases List.mem_append.1 hd with hd | hd; exact sx.j.wb d hd; exact sx.j.wc d hd)
end

theorem ifilt_take (p : Int → Bool) (l : List Int) (k : Nat) (h : k < l.length) : (l.take (k + 1)).filter p = (l.take k).filter p ++ if p (l.getD k 0) then [l.getD k 0] else [] := by
  rw [take_succ_get l k h, List.filter_append]; simp [List.filter_cons]

end Go.Proofs.YtdlpnhfgjficgaaGreat

namespace Go.Proofs.YtdlpnhfgjficgaaGreat
open Go.RowKit Go.Maps Go.Shelf Go.Sort

/-- Rows of texts. -/
def svs (l : List (List UInt8)) : List Value := l.map fun s => .string (bs s)
def Strs (w : World) (v : Value) (l : List (List UInt8)) : Prop := Row w v l.length 1 (svs l)
theorem Strs.shape {w : World} {v : Value} {l : List (List UInt8)} (h : Strs w v l) : ∃ a cap, v = .slice a l.length cap := Row.shape h
theorem Strs.get {w : World} {a : Option Addr} {n cap : Nat} {l : List (List UInt8)} (h : Strs w (.slice a n cap) l) {k : Nat} (hk : k < l.length) :
    ∃ b off, a = some ⟨b, off, none⟩ ∧ b < w.heap.size ∧ w.cell? ⟨b, off + k, none⟩ = some (.string (bs (l.getD k []))) := by
  have e : n = l.length := by obtain ⟨a', c', e⟩ := h.shape; injection e
  subst e
  obtain ⟨b, off, e, hb, hc⟩ := Row.elem h hk
  refine ⟨b, off, e, hb, ?_⟩
  have := hc 0 (by omega)
  simp only [Nat.mul_one, Nat.add_zero] at this
  rw [this]
  simp [svs, List.getD, hk]
theorem take_succ_s (l : List (List UInt8)) (k : Nat) (h : k < l.length) : l.take (k + 1) = l.take k ++ [l.getD k []] := by
  rw [List.take_succ_eq_append_getElem h]; simp [List.getD, h]
def StrsO (w : World) (l : List (List UInt8)) (e : Ending) (w' : World) : Prop := ∃ v', e = .returned v' ∧ w'.ownsRow w.heap.size 9 1 v' l.length (svs l) ∧ Pure w w'
theorem svs_append (l k : List (List UInt8)) : svs (l ++ k) = svs l ++ svs k := by simp [svs]
theorem svs_one (l : List (List UInt8)) : ∀ u ∈ svs l, u.oneCell' = true := by
  intro u hu
  simp only [svs, List.mem_map] at hu
  obtain ⟨s, _, rfl⟩ := hu
  rfl
theorem infoStr : (Tryz.prog.info? 9).map (fun i => (i.zero, i.size, i.bytes)) = some (some (.string ⟨#[]⟩), 1, 16) := by kernel_rfl
theorem wpList_append_strs {ops : Array Oper} {rest : List Oper} {o : Oper} {a : Act} {Q : Exit → Act → World → Prop} {w : World} (hgd : o.guard = none) (s x : Operand)
    (ho : o.op = .call { callee := .builtin .append, args := #[s, x], argTypes := #[61, 61] }) (base : Nat) (v : Value) (xs : List (List UInt8)) (n : Nat) (hs : a.eval s = v)
    (hown : w.ownsRow base 9 1 v n (svs xs)) (u : Value) (k : List (List UInt8)) (m : Nat) (hx : a.eval x = u) (hu : Row w u m 1 (svs k)) (hlen : n + m ≤ 1000000) (hbase : base ≤ w.heap.size)
    (h : ∀ v' w', w'.ownsRow base 9 1 v' (n + m) (svs (xs ++ k)) → w.grownBy w' v.ownBlock → wpList Tryz.prog ops Q rest (a.put o.dst v') w') : wpList Tryz.prog ops Q (o :: rest) a w := by
  obtain ⟨i0, hi, hz0, hz1, hz2⟩ := info_parts infoStr
  exact wpList_append_rows hgd s x _ ho base 9 i0 _ 1 16 Tryz.underlying61 hi hz0 hz1 hz2 rfl (by decide) (by decide) v n _ hs hown u m _ hx hu (svs_one k) hlen hbase (fun v' w' q1 q2 => h v' w' (by rw [svs_append]; exact q1) q2)
theorem strs_lit (w : World) (s : List UInt8) : Row (w.alloc (.cells #[.string (bs s)] 9)) (.slice (some ⟨w.heap.size, 0, none⟩) 1 1) 1 1 (svs [s]) := by
  refine ⟨rfl, _, _, rfl, Nat.le_refl _, by unfold maxLen; omega, .inr ⟨_, _, rfl, by simp, fun i hi => ?_⟩⟩
  rw [Nat.zero_add, World.cell?_alloc_new]
  simp [svs]

theorem map_take {α : Type} (f : Int → α) (l : List Int) (k : Nat) (h : k < l.length) : (l.take (k + 1)).map f = (l.take k).map f ++ [f (l.getD k 0)] := by
  rw [take_succ_get l k h]; simp
end Go.Proofs.YtdlpnhfgjficgaaGreat

