/- Parts of a context, in plain words. -/
import Derived.Test.YtimcjkimehhgcaaLE
namespace Go.Proofs.Ytimcjkimehhgcaa
open Go.RowKit Go.Maps Go.Shelf Go.Sort

theorem onode_mem {l : List Dot} {x : Int} {d : Dot} : d ∈ onode l x ↔ d ∈ l ∧ d.1 = x := by unfold onode; simp [List.mem_filter]
theorem cbase_onode {B : List Dot} (h : BR B) (x y : Int) : cbase (onode B x) y = if y = x then cbase B x else 0 := by
  have hr : BR (onode B x) := h.sublist List.filter_sublist
  by_cases hyx : y = x
  · subst hyx
    rw [if_pos rfl]
    by_cases h0 : cbase B y = 0
    · rw [h0]
      refine Classical.byContradiction fun hn => ?_
      have hm := cbase_pos hn
      have := cbase_mem h (onode_mem.1 hm).1
      dsimp only at this
      omega
    · exact cbase_mem hr (d := (y, cbase B y)) (onode_mem.2 ⟨cbase_pos h0, rfl⟩)
  · rw [if_neg hyx]
    refine Classical.byContradiction fun hn => ?_
    exact hyx (onode_mem.1 (cbase_pos hn)).2
theorem Pt.ok {X : List Dot × List Dot} (h : COk X.1 X.2) (x : Int) : COk (Pt X x).1 (Pt X x).2 := by
  refine ⟨h.br.sublist List.filter_sublist, fun d hd => h.bok d (onode_mem.1 hd).1, h.cr.sublist List.filter_sublist, fun d hd => h.cok d (onode_mem.1 hd).1, fun d hd => ?_⟩
  obtain ⟨h1, h2⟩ := onode_mem.1 hd
  have := h.far d h1
  show cbase (onode X.1 x) d.1 + 1 < d.2
  rw [cbase_onode h.br, h2, if_pos rfl, ← h2]
  exact this
theorem Pt.has {X : List Dot × List Dot} (h : COk X.1 X.2) (x : Int) (d : Dot) : chas (Pt X x).1 (Pt X x).2 d = (chas X.1 X.2 d && decide (d.1 = x)) := by
  rw [Bool.eq_iff_iff, Bool.and_eq_true, chas_iff, chas_iff, decide_eq_true_eq]
  show dok d ∧ (d.2 ≤ cbase (onode X.1 x) d.1 ∨ d ∈ onode X.2 x) ↔ _
  rw [cbase_onode h.br, onode_mem]
  constructor
  · rintro ⟨hd, h1 | h1⟩
    · split at h1
      · rename_i hx
        exact ⟨⟨hd, .inl (by rw [hx]; exact h1)⟩, hx⟩
      · unfold dok at hd; omega
    · exact ⟨⟨hd, .inr h1.1⟩, h1.2⟩
  · rintro ⟨⟨hd, h1 | h1⟩, hx⟩
    · exact ⟨hd, .inl (by rw [if_pos hx, ← hx]; exact h1)⟩
    · exact ⟨hd, .inr ⟨h1, hx⟩⟩
theorem Sml.pt {m : Nat} {X : List Dot × List Dot} (h : Sml m X) (x : Int) : Sml m (Pt X x) :=
  ⟨Pt.ok h.ok x, Nat.le_trans (List.length_filter_le _ _) h.l0, Nat.le_trans (List.length_filter_le _ _) h.l1⟩
/-- What is of some nodes. -/
def Ps (X : List Dot × List Dot) (N : List Int) : List Dot × List Dot := (X.1.filter fun d => decide (d.1 ∈ N), X.2.filter fun d => decide (d.1 ∈ N))
theorem ps_mem {l : List Dot} {N : List Int} {d : Dot} : d ∈ l.filter (fun d => decide (d.1 ∈ N)) ↔ d ∈ l ∧ d.1 ∈ N := by simp [List.mem_filter]
theorem cbase_ps {B : List Dot} (h : BR B) (N : List Int) (y : Int) : cbase (B.filter fun d => decide (d.1 ∈ N)) y = if y ∈ N then cbase B y else 0 := by
  have hr : BR (B.filter fun d => decide (d.1 ∈ N)) := h.sublist List.filter_sublist
  by_cases hy : y ∈ N
  · rw [if_pos hy]
    by_cases h0 : cbase B y = 0
    · rw [h0]
      refine Classical.byContradiction fun hn => ?_
      have hm := cbase_pos hn
      have := cbase_mem h (ps_mem.1 hm).1
      dsimp only at this
      omega
    · exact cbase_mem hr (d := (y, cbase B y)) (ps_mem.2 ⟨cbase_pos h0, hy⟩)
  · rw [if_neg hy]
    refine Classical.byContradiction fun hn => ?_
    exact hy (ps_mem.1 (cbase_pos hn)).2
theorem Ps.ok {X : List Dot × List Dot} (h : COk X.1 X.2) (N : List Int) : COk (Ps X N).1 (Ps X N).2 := by
  refine ⟨h.br.sublist List.filter_sublist, fun d hd => h.bok d (ps_mem.1 hd).1, h.cr.sublist List.filter_sublist, fun d hd => h.cok d (ps_mem.1 hd).1, fun d hd => ?_⟩
  obtain ⟨h1, h2⟩ := ps_mem.1 hd
  have := h.far d h1
  show cbase (X.1.filter fun d => decide (d.1 ∈ N)) d.1 + 1 < d.2
  rw [cbase_ps h.br, if_pos h2]
  exact this
theorem Ps.has {X : List Dot × List Dot} (h : COk X.1 X.2) (N : List Int) (d : Dot) : chas (Ps X N).1 (Ps X N).2 d = (chas X.1 X.2 d && decide (d.1 ∈ N)) := by
  rw [Bool.eq_iff_iff, Bool.and_eq_true, chas_iff, chas_iff, decide_eq_true_eq]
  show dok d ∧ (d.2 ≤ cbase (X.1.filter fun d => decide (d.1 ∈ N)) d.1 ∨ d ∈ X.2.filter fun d => decide (d.1 ∈ N)) ↔ _
  rw [cbase_ps h.br, ps_mem]
  constructor
  · rintro ⟨hd, h1 | h1⟩
    · split at h1
      · rename_i hx
        exact ⟨⟨hd, .inl h1⟩, hx⟩
      · unfold dok at hd; omega
    · exact ⟨⟨hd, .inr h1.1⟩, h1.2⟩
  · rintro ⟨⟨hd, h1 | h1⟩, hx⟩
    · exact ⟨hd, .inl (by rw [if_pos hx]; exact h1)⟩
    · exact ⟨hd, .inr ⟨h1, hx⟩⟩
theorem Sml.ps {m : Nat} {X : List Dot × List Dot} (h : Sml m X) (N : List Int) : Sml m (Ps X N) :=
  ⟨Ps.ok h.ok N, Nat.le_trans (List.length_filter_le _ _) h.l0, Nat.le_trans (List.length_filter_le _ _) h.l1⟩
theorem Ps.nil (X : List Dot × List Dot) : Ps X [] = ([], []) := by unfold Ps; simp
/-- The next node's part is joined to what was gathered. -/
theorem Ps.step {X : List Dot × List Dot} (h : COk X.1 X.2) (N : List Int) (x : Int) : Jn (Pt X x) (Ps X N) = Ps X (N ++ [x]) :=
  ctx_eq (Jn.ok (Pt.ok h x) (Ps.ok h N)) (Ps.ok h _) (fun d => by
    rw [Jn.has (Pt.ok h x) (Ps.ok h N), Pt.has h, Ps.has h, Ps.has h]
    have e : decide (d.1 ∈ N ++ [x]) = (decide (d.1 = x) || decide (d.1 ∈ N)) := by rw [Bool.eq_iff_iff]; simp [or_comm]
    rw [e, Bool.and_or_distrib_left])
theorem Ps.all {X : List Dot × List Dot} (h : COk X.1 X.2) : Ps X (cnodes X.1 X.2) = X :=
  ctx_eq (Ps.ok h _) h (fun d => by
    rw [Ps.has h, Bool.eq_iff_iff, Bool.and_eq_true, decide_eq_true_eq, (cnodes_spec X.1 X.2).2]
    constructor
    · exact fun h => h.1
    · intro hd
      refine ⟨hd, ?_⟩
      obtain ⟨hk, h1 | h1⟩ := chas_iff.1 hd
      · have h0 : cbase X.1 d.1 ≠ 0 := by unfold dok at hk; omega
        exact ⟨_, .inl (cbase_pos h0), rfl⟩
      · exact ⟨d, .inr h1, rfl⟩)
/-- What is next was not seen. -/
theorem nfold_ge (node : Int) : ∀ (C : List Dot) (n : Int), n ≤ C.foldl (nstep node) n ∧ ∀ d ∈ C, d.1 = node → d.2 ≤ C.foldl (nstep node) n
  | [], n => ⟨Int.le_refl _, by simp⟩
  | d :: C, n => by
    rw [List.foldl_cons]
    obtain ⟨h1, h2⟩ := nfold_ge node C (nstep node n d)
    have h3 : n ≤ nstep node n d ∧ (d.1 = node → d.2 ≤ nstep node n d) := by unfold nstep; split <;> omega
    refine ⟨by omega, fun e he hn => ?_⟩
    rcases List.mem_cons.1 he with rfl | he
    · have := h3.2 hn; omega
    · exact h2 e he hn
theorem cnx_ge_base (B C : List Dot) (node : Int) : cbase B node ≤ cnx B C node := (nfold_ge node C _).1
theorem cnx_ge {B C : List Dot} {d : Dot} (hd : d ∈ C) : d.2 ≤ cnx B C d.1 := (nfold_ge d.1 C _).2 d hd rfl
theorem next_new (X : List Dot × List Dot) (node : Int) : chas X.1 X.2 (node, cnx X.1 X.2 node + 1) = false := by
  rw [Bool.eq_false_iff]
  intro h
  obtain ⟨_, h1 | h1⟩ := chas_iff.1 h
  · have := cnx_ge_base X.1 X.2 node
    dsimp only at h1; omega
  · have := cnx_ge (B := X.1) h1
    dsimp only at this; omega
end Go.Proofs.Ytimcjkimehhgcaa
