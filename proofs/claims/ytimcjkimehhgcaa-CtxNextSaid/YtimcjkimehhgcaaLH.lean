/- Names that come next, in plain words. -/
import Derived.Test.YtimcjkimehhgcaaLG
namespace Go.Proofs.Ytimcjkimehhgcaa
open Go.RowKit Go.Maps Go.Shelf Go.Sort

/-- n is the greatest number seen of a node. -/
theorem cnx_of {X : List Dot × List Dot} (h : COk X.1 X.2) {x n : Int} (hx : 1 ≤ x ∧ x ≤ 1099511627776) (hn : 0 ≤ n) (h1 : n ≠ 0 → chas X.1 X.2 (x, n) = true) (h2 : ∀ m, n < m → chas X.1 X.2 (x, m) = false) : cnx X.1 X.2 x = n := by
  have hnew : cnx X.1 X.2 x ≤ n := by
    refine Classical.byContradiction fun hc => ?_
    have hf := h2 (cnx X.1 X.2 x) (by omega)
    have : chas X.1 X.2 (x, cnx X.1 X.2 x) = true := by
      by_cases hl : (onode X.2 x).length = 0
      · rw [cnx_none hl]
        have e := cnx_none (B := X.1) hl
        have hp := cbase_pos (B := X.1) (x := x) (by omega)
        exact chas_iff.2 ⟨h.bok _ hp, .inl (Int.le_refl _)⟩
      · have e := cnx_some (B := X.1) h.cr (show 0 < (onode X.2 x).length by omega)
        have hm := getD_mem_d (l := onode X.2 x) (k := (onode X.2 x).length - 1) (by omega)
        obtain ⟨m1, m2⟩ := onode_mem.1 hm
        generalize (onode X.2 x).getD ((onode X.2 x).length - 1) (0, 0) = z at *
        obtain ⟨z1, z2⟩ := z
        dsimp only at m2 e
        subst m2
        have hfar := h.far _ m1
        dsimp only at hfar
        have : cnx X.1 X.2 z1 = z2 := by omega
        rw [this]
        exact chas_cloud h.cok m1
    rw [hf] at this; simp at this
  by_cases h0 : n = 0
  · have := cnx_ge_base X.1 X.2 x
    have := (cbase_bds h.bok x).1
    omega
  · obtain ⟨hk, hs | hs⟩ := chas_iff.1 (h1 h0)
    · have := cnx_ge_base X.1 X.2 x
      dsimp only at hs; omega
    · have := cnx_ge (B := X.1) hs
      dsimp only at this; omega
theorem cnx_max {X : List Dot × List Dot} (_h : COk X.1 X.2) (x m : Int) (hm : cnx X.1 X.2 x < m) : chas X.1 X.2 (x, m) = false := by
  rw [Bool.eq_false_iff]
  intro hc
  obtain ⟨_, h1 | h1⟩ := chas_iff.1 hc
  · have := cnx_ge_base X.1 X.2 x
    dsimp only at h1; omega
  · have := cnx_ge (B := X.1) h1
    dsimp only at this; omega
theorem cnx_bd {X : List Dot × List Dot} (h : COk X.1 X.2) (x : Int) : 0 ≤ cnx X.1 X.2 x ∧ cnx X.1 X.2 x ≤ 1099511627776 := by
  have h0 := cbase_bds h.bok x
  have h1 := cnx_ge_base X.1 X.2 x
  refine ⟨by omega, ?_⟩
  by_cases hl : (onode X.2 x).length = 0
  · rw [cnx_none hl]; omega
  · rw [cnx_some h.cr (by omega)]
    have hm := getD_mem_d (l := onode X.2 x) (k := (onode X.2 x).length - 1) (by omega)
    have := h.cok _ (onode_mem.1 hm).1
    unfold dok at this; omega
/-- The next name is added: the one behind it is next. -/
theorem cnx_add {X : List Dot × List Dot} (h : COk X.1 X.2) {x : Int} (hx : 1 ≤ x ∧ x ≤ 1099511627776) (hb : cnx X.1 X.2 x + 1 ≤ 1099511627776) : chas (Ad X [(x, cnx X.1 X.2 x + 1)]).1 (Ad X [(x, cnx X.1 X.2 x + 1)]).2 (x, cnx X.1 X.2 x + 1) = true ∧ cnx (Ad X [(x, cnx X.1 X.2 x + 1)]).1 (Ad X [(x, cnx X.1 X.2 x + 1)]).2 x = cnx X.1 X.2 x + 1 := by
  have hd : dchk (x, cnx X.1 X.2 x + 1) = true := dchk_iff.2 ⟨hx.1, hx.2, by have := (cnx_bd h x).1; dsimp only; omega, hb⟩
  have h1 : chas (Ad X [(x, cnx X.1 X.2 x + 1)]).1 (Ad X [(x, cnx X.1 X.2 x + 1)]).2 (x, cnx X.1 X.2 x + 1) = true := by rw [Ad.has h, hd]; simp
  refine ⟨h1, cnx_of (Ad.ok h _) hx (by have := (cnx_bd h x).1; omega) (fun _ => h1) (fun m hm => ?_)⟩
  rw [Ad.has h, cnx_max h x m (by omega)]
  have : ¬ m = cnx X.1 X.2 x + 1 := by omega
  simp [this]
/-- All names of a node from k + 1 to n. -/
def upto (x k : Int) : Nat → List Dot
  | 0 => []
  | j + 1 => upto x k j ++ [(x, k + 1 + j)]
theorem upto_mem (x k : Int) : ∀ (j : Nat) (d : Dot), d ∈ upto x k j ↔ d.1 = x ∧ k < d.2 ∧ d.2 ≤ k + j
  | 0, d => by simp only [upto, List.not_mem_nil, false_iff]; omega
  | j + 1, d => by
    simp only [upto, List.mem_append, upto_mem x k j d, List.mem_singleton]
    constructor
    · rintro (h | h)
      · omega
      · subst h; dsimp only; omega
    · rintro ⟨h1, h2, h3⟩
      by_cases h : d.2 ≤ k + j
      · exact .inl ⟨h1, h2, h⟩
      · exact .inr (Prod.ext h1 (by dsimp only; omega))
theorem upto_len (x k : Int) : ∀ j : Nat, (upto x k j).length = j
  | 0 => rfl
  | j + 1 => by simp [upto, upto_len x k j]
/-- With all up to it seen, they are one number. -/
theorem cbase_of {X : List Dot × List Dot} (h : COk X.1 X.2) {x n : Int} (hn : 0 ≤ n) (h1 : ∀ m, 1 ≤ m → m ≤ n → chas X.1 X.2 (x, m) = true) (h2 : ∀ m, n < m → chas X.1 X.2 (x, m) = false) (_hx : 1 ≤ x ∧ x ≤ 1099511627776) : cbase X.1 x = n := by
  have hle : cbase X.1 x ≤ n := by
    refine Classical.byContradiction fun hc => ?_
    have hp := cbase_pos (B := X.1) (x := x) (by omega)
    have := h2 (cbase X.1 x) (by omega)
    rw [chas_iff.2 ⟨h.bok _ hp, .inl (Int.le_refl _)⟩] at this
    simp at this
  refine Classical.byContradiction fun hc => ?_
  have h0 := (cbase_bds h.bok x).1
  obtain ⟨_, hs | hs⟩ := chas_iff.1 (h1 (cbase X.1 x + 1) (by omega) (by omega))
  · dsimp only at hs; omega
  · have := h.far _ hs
    dsimp only at this; omega
theorem next_all {X : List Dot × List Dot} (h : COk X.1 X.2) {x : Int} (hx : 1 ≤ x ∧ x ≤ 1099511627776) (j : Nat) (hj : cbase X.1 x + j = cnx X.1 X.2 x) : cbase (Ad X (upto x (cbase X.1 x) j)).1 x = cnx X.1 X.2 x := by
  have hb := cnx_bd h x
  refine cbase_of (Ad.ok h _) hb.1 (fun m m1 m2 => ?_) (fun m hm => ?_) hx
  · rw [Ad.has h]
    have hd : dchk (x, m) = true := dchk_iff.2 ⟨hx.1, hx.2, m1, by dsimp only; omega⟩
    rw [hd, Bool.and_true, Bool.or_eq_true, decide_eq_true_eq, upto_mem]
    by_cases hm : m ≤ cbase X.1 x
    · exact .inl (chas_iff.2 ⟨dchk_iff.1 hd, .inl hm⟩)
    · exact .inr ⟨rfl, by dsimp only; omega, by dsimp only; omega⟩
  · rw [Ad.has h, cnx_max h x m hm]
    have : decide ((x, m) ∈ upto x (cbase X.1 x) j) = false := by
      rw [decide_eq_false_iff_not, upto_mem]; dsimp only; omega
    rw [this]; rfl
/-- What has more covers what it was. -/
theorem ad_covers {X : List Dot × List Dot} (h : COk X.1 X.2) (l : List Dot) : Jn (Ad X l) X = Ad X l :=
  ctx_eq (Jn.ok (Ad.ok h l) h) (Ad.ok h l) (fun d => by
    rw [Jn.has (Ad.ok h l) h, Ad.has h]
    cases chas X.1 X.2 d <;> simp)
end Go.Proofs.Ytimcjkimehhgcaa
