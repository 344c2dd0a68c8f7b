/- Contexts in boxes, what is small, contracts over boxes, parts: shared by the seats above layer 4. -/
import Derived.Test.YtdlpnhfgjficgaaGreatMQa
import Derived.Test.YtdlpnhfgjficgaaGreatMBs
import Derived.Test.YtdlpnhfgjficgaaGreatMX3
namespace Go.Proofs.YtdlpnhfgjficgaaGreat
open Go.RowKit Go.Maps Go.Shelf Go.Sort

theorem JOk.of_ok {B C : List Dot} (h : COk B C) : JOk B C :=
  ⟨br_rise h.br, fun d hd => by have := h.bok d hd; unfold dok at this; omega, fun d hd => by have := h.cok d hd; unfold dok at this; omega, fun d hd => wf_dok (h.bok d hd), fun d hd => wf_dok (h.cok d hd)⟩
/-- A context in a box (block n): its two rows' values, and what they read as. -/
structure CB (n : Nat) (v0 v1 : Value) (X : List Dot × List Dot) (W : World) : Prop where
  b : W.heap[n]? = some (.cells #[v0, v1] 32 (0, 0))
  r0 : Dots W v0 X.1
  r1 : Dots W v1 X.2
theorem CB.pure {n : Nat} {v0 v1 : Value} {X : List Dot × List Dot} {W W' : World} (h : CB n v0 v1 X W) (hp : Pure W W') : CB n v0 v1 X W' :=
  ⟨(hp.block _ (lt_of_block h.b)).trans h.b, Row.pure h.r0 hp, Row.pure h.r1 hp⟩
theorem CB.cells {n : Nat} {v0 v1 : Value} {X : List Dot × List Dot} {W : World} (h : CB n v0 v1 X W) : W.cell? ⟨n, 0, none⟩ = some v0 ∧ W.cell? ⟨n, 1, none⟩ = some v1 := ⟨cell_of_block h.b 0, cell_of_block h.b 1⟩
theorem CB.made {w : World} {v0 v1 : Value} {X : List Dot × List Dot} (h0 : Dots w v0 X.1) (h1 : Dots w v1 X.2) : CB w.heap.size v0 v1 X (w.alloc (.cells #[v0, v1] 32)) :=
  ⟨block_alloc_new _ _, Row.pure h0 ((Below.refl _ _).alloc (Nat.le_refl _) _), Row.pure h1 ((Below.refl _ _).alloc (Nat.le_refl _) _)⟩
/-- A name in a box. -/
def DB (n : Nat) (d : Dot) (W : World) : Prop := W.heap[n]? = some (.cells #[.int .i64 d.1, .int .i64 d.2] 28 (0, 0))
theorem DB.pure {n : Nat} {d : Dot} {W W' : World} (h : DB n d W) (hp : Pure W W') : DB n d W' := (hp.block _ (lt_of_block h)).trans h
theorem DB.cells {n : Nat} {d : Dot} {W : World} (h : DB n d W) : W.cell? ⟨n, 0, none⟩ = some (.int .i64 d.1) ∧ W.cell? ⟨n, 1, none⟩ = some (.int .i64 d.2) := ⟨cell_of_block h 0, cell_of_block h 1⟩
/-- A context that may be, and is small. -/
structure Sml (m : Nat) (X : List Dot × List Dot) : Prop where
  ok : COk X.1 X.2
  l0 : X.1.length ≤ m
  l1 : X.2.length ≤ m
theorem Sml.bd {m : Nat} {X : List Dot × List Dot} (h : Sml m X) : ∀ d ∈ X.1, 0 ≤ d.2 ∧ d.2 ≤ 1152921504606846976 := fun d hd => by have := h.ok.bok d hd; unfold dok at this; omega
theorem Sml.bc {m : Nat} {X : List Dot × List Dot} (h : Sml m X) : ∀ d ∈ X.2, d.2 ≤ 1152921504606846976 := fun d hd => by have := h.ok.cok d hd; unfold dok at this; omega
theorem Sml.j {m : Nat} {X : List Dot × List Dot} (h : Sml m X) : JOk X.1 X.2 := JOk.of_ok h.ok
def Jn (X Y : List Dot × List Dot) : List Dot × List Dot := cjoin X.1 X.2 Y.1 Y.2
theorem Jn.ok {X Y : List Dot × List Dot} (hx : COk X.1 X.2) (hy : COk Y.1 Y.2) : COk (Jn X Y).1 (Jn X Y).2 := (cjoin_ok hx.wk hy.wk).1
theorem Jn.has {X Y : List Dot × List Dot} (hx : COk X.1 X.2) (hy : COk Y.1 Y.2) (d : Dot) : chas (Jn X Y).1 (Jn X Y).2 d = (chas X.1 X.2 d || chas Y.1 Y.2 d) := (cjoin_ok hx.wk hy.wk).2 d
theorem ctx_eq {X Y : List Dot × List Dot} (hx : COk X.1 X.2) (hy : COk Y.1 Y.2) (h : ∀ d, chas X.1 X.2 d = chas Y.1 Y.2 d) : X = Y := by
  obtain ⟨e0, e1⟩ := canon_eq hx hy h
  exact Prod.ext e0 e1
/-- Two values that read as a context. -/
def CR (v0 v1 : Value) (X : List Dot × List Dot) (W : World) : Prop := Dots W v0 X.1 ∧ Dots W v1 X.2
theorem CR.pure {v0 v1 : Value} {X : List Dot × List Dot} {W W' : World} (h : CR v0 v1 X W) (hp : Pure W W') : CR v0 v1 X W' := ⟨Row.pure h.1 hp, Row.pure h.2 hp⟩
theorem CB.cr {n : Nat} {v0 v1 : Value} {X : List Dot × List Dot} {W : World} (h : CB n v0 v1 X W) : CR v0 v1 X W := ⟨h.r0, h.r1⟩
section
variable {x0 x1 y0 y1 : Value} {X Y : List Dot × List Dot} {m n : Nat} {W : World}
end
theorem Sml.mono {m n : Nat} {X : List Dot × List Dot} (h : Sml m X) (hn : m ≤ n) : Sml n X := ⟨h.ok, Nat.le_trans h.l0 hn, Nat.le_trans h.l1 hn⟩
section
variable {x0 x1 : Value} {X : List Dot × List Dot} {m : Nat} {W : World}
def Ad (X : List Dot × List Dot) (l : List Dot) : List Dot × List Dot := cjoin X.1 X.2 [] (dsort (l.filter dchk))
def Pt (X : List Dot × List Dot) (node : Int) : List Dot × List Dot := (onode X.1 node, onode X.2 node)
end
theorem Ad.ok {X : List Dot × List Dot} (h : COk X.1 X.2) (l : List Dot) : COk (Ad X l).1 (Ad X l).2 := (cjoin_ok h.wk (CWk.cloud (adds_ok l))).1
theorem Ad.has {X : List Dot × List Dot} (h : COk X.1 X.2) (l : List Dot) (d : Dot) : chas (Ad X l).1 (Ad X l).2 d = (chas X.1 X.2 d || (decide (d ∈ l) && dchk d)) := by
  unfold Ad
  rw [(cjoin_ok h.wk (CWk.cloud (adds_ok l))).2 d]
  congr 1
  unfold chas
  have e : decide (d ∈ dsort (l.filter dchk)) = (decide (d ∈ l) && dchk d) := by
    rw [Bool.eq_iff_iff, decide_eq_true_eq, (dsort_spec _).2, List.mem_filter]
    simp
  rw [e]
  cases hc : dchk d with
  | false => simp
  | true =>
    have hd := dchk_iff.1 hc
    have : decide (d.2 ≤ cbase [] d.1) = false := by
      have e0 : cbase [] d.1 = 0 := rfl
      rw [e0]; unfold dok at hd; simp; omega
    rw [this]; simp
theorem Sml.ad {m : Nat} {X : List Dot × List Dot} (h : Sml m X) (l : List Dot) : Sml (2 * m + l.length) (Ad X l) := by
  have hl := cjoin_len h.ok.wk (CWk.cloud (adds_ok l))
  have h3 : (dsort (l.filter dchk)).length ≤ l.length := Nat.le_trans (dsort_len _) (List.length_filter_le _ _)
  have := h.l0; have := h.l1
  simp only [List.length_nil] at hl
  exact ⟨Ad.ok h.ok l, by unfold Ad; omega, by unfold Ad; omega⟩
theorem onode_mem {l : List Dot} {x : Int} {d : Dot} : d ∈ onode l x ↔ d ∈ l ∧ d.1 = x := by unfold onode; simp [List.mem_filter]
theorem cbase_onode {B : List Dot} (h : BR B) (x y : Int) : cbase (onode B x) y = if y = x then cbase B x else 0 := by
  have hr : BR (onode B x) := h.sublist List.filter_sublist
  by_cases hyx : y = x
  · subst hyx
    rw [if_pos rfl]
    by_cases h0 : cbase B y = 0
    · rw [h0]
      refine Classical.byContradiction fun hn => ?_
      have hm := cbase_pos hn
      have := cbase_mem h (onode_mem.1 hm).1
      dsimp only at this
      omega
    · exact cbase_mem hr (d := (y, cbase B y)) (onode_mem.2 ⟨cbase_pos h0, rfl⟩)
  · rw [if_neg hyx]
    refine Classical.byContradiction fun hn => ?_
    exact hyx (onode_mem.1 (cbase_pos hn)).2
theorem Pt.ok {X : List Dot × List Dot} (h : COk X.1 X.2) (x : Int) : COk (Pt X x).1 (Pt X x).2 := by
  refine ⟨h.br.sublist List.filter_sublist, fun d hd => h.bok d (onode_mem.1 hd).1, h.cr.sublist List.filter_sublist, fun d hd => h.cok d (onode_mem.1 hd).1, fun d hd => ?_⟩
  obtain ⟨h1, h2⟩ := onode_mem.1 hd
  have := h.far d h1
  show cbase (onode X.1 x) d.1 + 1 < d.2
  rw [cbase_onode h.br, h2, if_pos rfl, ← h2]
  exact this
theorem Pt.has {X : List Dot × List Dot} (h : COk X.1 X.2) (x : Int) (d : Dot) : chas (Pt X x).1 (Pt X x).2 d = (chas X.1 X.2 d && decide (d.1 = x)) := by
  rw [Bool.eq_iff_iff, Bool.and_eq_true, chas_iff, chas_iff, decide_eq_true_eq]
  show dok d ∧ (d.2 ≤ cbase (onode X.1 x) d.1 ∨ d ∈ onode X.2 x) ↔ _
  rw [cbase_onode h.br, onode_mem]
  constructor
  · rintro ⟨hd, h1 | h1⟩
    · split at h1
      · rename_i hx
        exact ⟨⟨hd, .inl (by rw [hx]; exact h1)⟩, hx⟩
      · unfold dok at hd; omega
    · exact ⟨⟨hd, .inr h1.1⟩, h1.2⟩
  · rintro ⟨⟨hd, h1 | h1⟩, hx⟩
    · exact ⟨hd, .inl (by rw [if_pos hx, ← hx]; exact h1)⟩
    · exact ⟨hd, .inr ⟨h1, hx⟩⟩
/-- What is of some nodes. -/
def Ps (X : List Dot × List Dot) (N : List Int) : List Dot × List Dot := (X.1.filter fun d => decide (d.1 ∈ N), X.2.filter fun d => decide (d.1 ∈ N))
theorem ps_mem {l : List Dot} {N : List Int} {d : Dot} : d ∈ l.filter (fun d => decide (d.1 ∈ N)) ↔ d ∈ l ∧ d.1 ∈ N := by simp [List.mem_filter]
theorem cbase_ps {B : List Dot} (h : BR B) (N : List Int) (y : Int) : cbase (B.filter fun d => decide (d.1 ∈ N)) y = if y ∈ N then cbase B y else 0 := by
  have hr : BR (B.filter fun d => decide (d.1 ∈ N)) := h.sublist List.filter_sublist
  by_cases hy : y ∈ N
  · rw [if_pos hy]
    by_cases h0 : cbase B y = 0
    · rw [h0]
      refine Classical.byContradiction fun hn => ?_
      have hm := cbase_pos hn
      have := cbase_mem h (ps_mem.1 hm).1
      dsimp only at this
      omega
    · exact cbase_mem hr (d := (y, cbase B y)) (ps_mem.2 ⟨cbase_pos h0, hy⟩)
  · rw [if_neg hy]
    refine Classical.byContradiction fun hn => ?_
    exact hy (ps_mem.1 (cbase_pos hn)).2
theorem Ps.ok {X : List Dot × List Dot} (h : COk X.1 X.2) (N : List Int) : COk (Ps X N).1 (Ps X N).2 := by
  refine ⟨h.br.sublist List.filter_sublist, fun d hd => h.bok d (ps_mem.1 hd).1, h.cr.sublist List.filter_sublist, fun d hd => h.cok d (ps_mem.1 hd).1, fun d hd => ?_⟩
  obtain ⟨h1, h2⟩ := ps_mem.1 hd
  have := h.far d h1
  show cbase (X.1.filter fun d => decide (d.1 ∈ N)) d.1 + 1 < d.2
  rw [cbase_ps h.br, if_pos h2]
  exact this
theorem Ps.has {X : List Dot × List Dot} (h : COk X.1 X.2) (N : List Int) (d : Dot) : chas (Ps X N).1 (Ps X N).2 d = (chas X.1 X.2 d && decide (d.1 ∈ N)) := by
  rw [Bool.eq_iff_iff, Bool.and_eq_true, chas_iff, chas_iff, decide_eq_true_eq]
  show dok d ∧ (d.2 ≤ cbase (X.1.filter fun d => decide (d.1 ∈ N)) d.1 ∨ d ∈ X.2.filter fun d => decide (d.1 ∈ N)) ↔ _
  rw [cbase_ps h.br, ps_mem]
  constructor
  · rintro ⟨hd, h1 | h1⟩
    · split at h1
      · rename_i hx
        exact ⟨⟨hd, .inl h1⟩, hx⟩
      · unfold dok at hd; omega
    · exact ⟨⟨hd, .inr h1.1⟩, h1.2⟩
  · rintro ⟨⟨hd, h1 | h1⟩, hx⟩
    · exact ⟨hd, .inl (by rw [if_pos hx]; exact h1)⟩
    · exact ⟨hd, .inr ⟨h1, hx⟩⟩
theorem Sml.ps {m : Nat} {X : List Dot × List Dot} (h : Sml m X) (N : List Int) : Sml m (Ps X N) :=
  ⟨Ps.ok h.ok N, Nat.le_trans (List.length_filter_le _ _) h.l0, Nat.le_trans (List.length_filter_le _ _) h.l1⟩
theorem Ps.nil (X : List Dot × List Dot) : Ps X [] = ([], []) := by unfold Ps; simp
/-- The next node's part is joined to what was gathered. -/
theorem Ps.step {X : List Dot × List Dot} (h : COk X.1 X.2) (N : List Int) (x : Int) : Jn (Pt X x) (Ps X N) = Ps X (N ++ [x]) :=
  ctx_eq (Jn.ok (Pt.ok h x) (Ps.ok h N)) (Ps.ok h _) (fun d => by
    rw [Jn.has (Pt.ok h x) (Ps.ok h N), Pt.has h, Ps.has h, Ps.has h]
    have e : decide (d.1 ∈ N ++ [x]) = (decide (d.1 = x) || decide (d.1 ∈ N)) := by rw [Bool.eq_iff_iff]; simp [or_comm]
    rw [e, Bool.and_or_distrib_left])
theorem Ps.all {X : List Dot × List Dot} (h : COk X.1 X.2) : Ps X (cnodes X.1 X.2) = X :=
  ctx_eq (Ps.ok h _) h (fun d => by
    rw [Ps.has h, Bool.eq_iff_iff, Bool.and_eq_true, decide_eq_true_eq, (cnodes_spec X.1 X.2).2]
    constructor
    · exact fun h => h.1
    · intro hd
      refine ⟨hd, ?_⟩
      obtain ⟨hk, h1 | h1⟩ := chas_iff.1 hd
      · have h0 : cbase X.1 d.1 ≠ 0 := by unfold dok at hk; omega
        exact ⟨_, .inl (cbase_pos h0), rfl⟩
      · exact ⟨d, .inr h1, rfl⟩)
end Go.Proofs.YtdlpnhfgjficgaaGreat
