/- Names, rows of names and contexts that came in, read to their cells. -/
import Derived.Test.YtbcbmnifbflmaaaGreatMCm
import Derived.OpenShut
import Derived.Deep.Slices
import Derived.Deep.Fields
import Derived.ChangeSame
namespace Go.Proofs.YtbcbmnifbflmaaaGreat
open Go.RowKit Go.Maps Go.ChangeShapes Go.WideShapes Go.Deep

theorem dot_cells {H : Type} {enc : TypeId × Value → H} {W : World} {base : Nat} {held : Bool} {fuel : Nat} {x : DataW H × List MemPlace} {c0 c1 : Value}
    (h : DataW.trod enc Tryz.prog W base (fun _ => true) held fuel 28 [c0, c1] = some x) : ∃ d : Dot, c0 = .int .i64 d.1 ∧ c1 = .int .i64 d.2 := by
  have hC3 : Tryz.prog.cellsOf 3 = 1 := by kernel_rfl
  obtain ⟨ys, n', _, _, _, hyl, hg⟩ := DataW.trod_struct Tryz.underlying28 h
  match ys, hyl with
  | [y0, y1], _ =>
    have g0 : DataW.trod enc Tryz.prog W base (fun _ => true) held n' 3 (List.take (Tryz.prog.cellsOf 3) [c0, c1]) = some y0 := hg 0 _ rfl
    have g1 : DataW.trod enc Tryz.prog W base (fun _ => true) held n' 3 (List.take (Tryz.prog.cellsOf 3) [c1]) = some y1 := hg 1 _ rfl
    rw [hC3] at g0 g1
    simp only [List.take_succ_cons, List.take_zero] at g0 g1
    obtain ⟨z0, e0, _⟩ := DataW.trod_int Tryz.underlying3 g0
    obtain ⟨z1, e1, _⟩ := DataW.trod_int Tryz.underlying3 g1
    simp only [List.cons.injEq, and_true] at e0 e1
    exact ⟨(z0, z1), e0, e1⟩
set_option maxRecDepth 8000 in
theorem dot_of_trod {H : Type} {enc : TypeId × Value → H} {W : World} {base : Nat} {held : Bool} {r : Reach} {b0 : Nat} {v : Value} {d : DataW H} {p : List MemPlace}
    (hv : Value.okWide Tryz.prog W r b0 28 v) (h : DataW.Trod enc Tryz.prog W base (fun _ => true) held 28 v d p) : ∃ z : Dot, v = dv z := by
  obtain ⟨cs, rfl, hsz⟩ := okWide_struct Tryz.underlying28 hv
  have hC : Tryz.prog.cellsOf 28 = 2 := by kernel_rfl
  obtain ⟨l⟩ := cs
  match l, hsz.trans hC with
  | [c0, c1], _ =>
    obtain ⟨fuel, hf⟩ := h
    obtain ⟨z, rfl, rfl⟩ := dot_cells hf
    exact ⟨z, rfl⟩
set_option maxRecDepth 8000 in
theorem dots_cell {H : Type} {enc : TypeId × Value → H} {W : World} {base : Nat} {held : Bool} {fuel : Nat} {x : DataW H × List MemPlace} {v : Value}
    (h : DataW.trod enc Tryz.prog W base (fun _ => true) held fuel 24 [v] = some x) : ∃ l, Dots W v l := by
  rcases open_slice Tryz.underlying24 h with ⟨hcs, _⟩ | ⟨ad, len, cap', m, n, D, Pl, hcs, _, hl, hm, hmm, _, hi⟩
  · simp at hcs
    subst hcs
    exact ⟨[], Row.nil _ _⟩
  · simp at hcs
    subst hcs
    simp only [if_true] at hmm
    subst hmm
    have hC : Tryz.prog.cellsOf 28 = 2 := by kernel_rfl
    obtain ⟨f, hf⟩ := choose_lt (α := Int × Int) (n := m) (p := fun k t => W.cell? (ad.add (k * 2)) = some (.int .i64 t.1) ∧ W.cell? (ad.add (k * 2 + 1)) = some (.int .i64 t.2)) (fun k hk => by
      obtain ⟨cs', hc, ht⟩ := hi k hk
      rw [hC] at hc
      obtain ⟨_, hcl, hat⟩ := World.cells?_some hc
      match cs', hcl with
      | [c0, c1], _ =>
        obtain ⟨z, rfl, rfl⟩ := dot_cells ht
        have a0 := hat 0 (by decide)
        have a1 := hat 1 (by decide)
        rw [Go.Deep.add_add] at a0 a1
        exact ⟨z, a0, a1⟩)
    have hll : ((List.range len).map f).length = len := by simp
    refine ⟨(List.range len).map f, ?_⟩
    unfold Dots
    rw [hll]
    refine ⟨by rw [dvs_len, hll], some ad, m, rfl, hl, hm, ?_⟩
    by_cases h0 : m = 0
    · exact .inl h0
    · right
      obtain ⟨b, off, spot⟩ := ad
      have hspot : spot = none := by simpa [Addr.add] using World.cell?_spot (hf 0 (by omega)).1
      subst hspot
      have hb0 := (hf 0 (by omega)).1
      rw [Addr.add_lit] at hb0
      refine ⟨b, off, rfl, World.block_lt_of_cell? W _ hb0, fun i hi' => ?_⟩
      have hk : i / 2 < len := by omega
      obtain ⟨d0, d1⟩ := dvs_get ((List.range len).map f) (i / 2) (by rw [hll]; exact hk)
      have e : ((List.range len).map f).getD (i / 2) (0, 0) = f (i / 2) := by simp [List.getD, hk]
      rw [e] at d0 d1
      obtain ⟨c0, c1⟩ := hf (i / 2) (by omega)
      rw [Addr.add_lit] at c0 c1
      rcases Nat.mod_two_eq_zero_or_one i with hm2 | hm2
      · have ei : i = i / 2 * 2 := by omega
        rw [ei, d0]; exact c0
      · have ei : i = i / 2 * 2 + 1 := by omega
        rw [ei, d1]; exact c1
def DotsIn (w : World) (a : Option Addr) (len cap : Nat) (l : List Dot) : Prop := Dots w (.slice a len cap) l
theorem dots_of_trod {H : Type} {enc : TypeId × Value → H} {W : World} {base : Nat} {held : Bool} {a : Option Addr} {len cap fuel : Nat} {x : DataW H × List MemPlace}
    (h : DataW.trod enc Tryz.prog W base (fun _ => true) held fuel 24 [.slice a len cap] = some x) : ∃ l, DotsIn W a len cap l := dots_cell h
set_option maxRecDepth 8000 in
theorem ctx_of_trod {H : Type} {enc : TypeId × Value → H} {W : World} {base : Nat} {held : Bool} {r : Reach} {b0 : Nat} {v : Value} {d : DataW H} {p : List MemPlace}
    (hv : Value.okWide Tryz.prog W r b0 31 v) (h : DataW.Trod enc Tryz.prog W base (fun _ => true) held 31 v d p) : ∃ (u0 u1 : Value) (B C : List Dot), v = .agg #[u0, u1] ∧ Dots W u0 B ∧ Dots W u1 C := by
  obtain ⟨cs, rfl, hsz⟩ := okWide_struct Tryz.underlying31 hv
  have hC : Tryz.prog.cellsOf 31 = 2 := by kernel_rfl
  have hC1 : Tryz.prog.cellsOf 24 = 1 := by kernel_rfl
  obtain ⟨l⟩ := cs
  match l, hsz.trans hC with
  | [c0, c1], _ =>
    obtain ⟨fuel, hf⟩ := h
    obtain ⟨ys, n', _, _, _, hyl, hg⟩ := DataW.trod_struct Tryz.underlying31 hf
    match ys, hyl with
    | [y0, y1], _ =>
      have g0 : DataW.trod enc Tryz.prog W base (fun _ => true) held n' 24 (List.take (Tryz.prog.cellsOf 24) [c0, c1]) = some y0 := hg 0 _ rfl
      have g1 : DataW.trod enc Tryz.prog W base (fun _ => true) held n' 24 (List.take (Tryz.prog.cellsOf 24) [c1]) = some y1 := hg 1 _ rfl
      rw [hC1] at g0 g1
      simp only [List.take_succ_cons, List.take_zero] at g0 g1
      obtain ⟨B, hB⟩ := dots_cell g0
      obtain ⟨C, hC'⟩ := dots_cell g1
      exact ⟨c0, c1, B, C, rfl, hB, hC'⟩
end Go.Proofs.YtbcbmnifbflmaaaGreat
