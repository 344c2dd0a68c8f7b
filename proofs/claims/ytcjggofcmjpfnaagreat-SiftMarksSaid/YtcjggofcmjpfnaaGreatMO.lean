/- Texts and an Ask that came in, read to their cells; SiftMarks as its frame calls it. -/
import Derived.Test.YtcjggofcmjpfnaaGreatMSt
namespace Go.Proofs.YtcjggofcmjpfnaaGreat
open Go.RowKit Go.Maps Go.ChangeShapes Go.WideShapes Go.Deep

set_option maxRecDepth 8000 in
set_option maxHeartbeats 1000000 in
theorem strs_cell {H : Type} {enc : TypeId × Value → H} {W : World} {base : Nat} {held : Bool} {fuel : Nat} {x : DataW H × List MemPlace} {v : Value}
    (h : DataW.trod enc Tryz.prog W base (fun _ => true) held fuel 38 [v] = some x) : ∃ l, Strs W v l := by
  rcases open_slice Tryz.underlying38 h with ⟨hcs, _⟩ | ⟨ad, len, cap', m, n, D, Pl, hcs, _, hl, hm, hmm, _, hi⟩
  · simp at hcs
    subst hcs
    exact ⟨[], Row.nil _ _⟩
  · simp at hcs
    subst hcs
    simp only [if_true] at hmm
    subst hmm
    have hC : Tryz.prog.cellsOf 9 = 1 := by kernel_rfl
    obtain ⟨f, hf⟩ := choose_lt (α := List UInt8) (n := m) (p := fun k t => W.cell? (ad.add k) = some (.string (bs t))) (fun k hk => by
      obtain ⟨cs', hc, ht⟩ := hi k hk
      rw [hC] at hc
      obtain ⟨_, hcl, hat⟩ := World.cells?_some hc
      match cs', hcl with
      | [c0], _ =>
        obtain ⟨s, e, _⟩ := DataW.trod_string Tryz.underlying9 ht
        simp only [List.cons.injEq, and_true] at e
        obtain ⟨l, rfl⟩ := bs_of s
        have a0 := hat 0 (by decide)
        rw [Go.Deep.add_add] at a0
        exact ⟨l, by rw [← e]; simpa using a0⟩)
    have hll : ((List.range len).map f).length = len := by simp
    refine ⟨(List.range len).map f, ?_⟩
    unfold Strs
    rw [hll]
    refine ⟨by rw [svs_len, hll, Nat.mul_one], some ad, m, rfl, hl, hm, ?_⟩
    by_cases h0 : m = 0
    · exact .inl h0
    · right
      obtain ⟨b, off, spot⟩ := ad
      have hb1 : W.cell? (Addr.add ⟨b, off, spot⟩ 0) = some (.string (bs (f 0))) := hf 0 (by omega)
      have hspot : spot = none := by simpa [Addr.add] using World.cell?_spot hb1
      subst hspot
      rw [Addr.add_lit] at hb1
      refine ⟨b, off, rfl, World.block_lt_of_cell? W _ hb1, fun i hi' => ?_⟩
      have hk : i < len := by omega
      have c0 := hf i (by omega)
      rw [Addr.add_lit] at c0
      rw [c0]
      simp [svs, hk]
set_option maxRecDepth 8000 in
theorem ask_of_trod {H : Type} {enc : TypeId × Value → H} {W : World} {base : Nat} {held : Bool} {r : Reach} {b0 : Nat} {v : Value} {d : DataW H} {p : List MemPlace}
    (hv : Value.okWide Tryz.prog W r b0 40 v) (h : DataW.Trod enc Tryz.prog W base (fun _ => true) held 40 v d p) : ∃ (o : Bool) (n : Int) (u : Value) (X : List (List UInt8)), v = .agg #[.bool o, .int .i64 n, u] ∧ Strs W u X := by
  obtain ⟨cs, rfl, hsz⟩ := okWide_struct Tryz.underlying40 hv
  have hC : Tryz.prog.cellsOf 40 = 3 := by kernel_rfl
  have hC1 : Tryz.prog.cellsOf 4 = 1 := by kernel_rfl
  have hC2 : Tryz.prog.cellsOf 3 = 1 := by kernel_rfl
  have hC3 : Tryz.prog.cellsOf 38 = 1 := by kernel_rfl
  obtain ⟨l⟩ := cs
  match l, hsz.trans hC with
  | [c0, c1, c2], _ =>
    obtain ⟨fuel, hf⟩ := h
    obtain ⟨ys, n', _, _, _, hyl, hg⟩ := DataW.trod_struct Tryz.underlying40 hf
    match ys, hyl with
    | [y0, y1, y2], _ =>
      have g0 : DataW.trod enc Tryz.prog W base (fun _ => true) held n' 4 (List.take (Tryz.prog.cellsOf 4) [c0, c1, c2]) = some y0 := hg 0 _ rfl
      have g1 : DataW.trod enc Tryz.prog W base (fun _ => true) held n' 3 (List.take (Tryz.prog.cellsOf 3) [c1, c2]) = some y1 := hg 1 _ rfl
      have g2 : DataW.trod enc Tryz.prog W base (fun _ => true) held n' 38 (List.take (Tryz.prog.cellsOf 38) [c2]) = some y2 := hg 2 _ rfl
      rw [hC1] at g0
      rw [hC2] at g1
      rw [hC3] at g2
      simp only [List.take_succ_cons, List.take_zero] at g0 g1 g2
      obtain ⟨o, e0, _⟩ := DataW.trod_bool Tryz.underlying4 g0
      obtain ⟨z, e1, _⟩ := DataW.trod_int Tryz.underlying3 g1
      simp only [List.cons.injEq, and_true] at e0 e1
      obtain ⟨X, hX⟩ := strs_cell g2
      exact ⟨o, z, c2, X, by rw [e0, e1], hX⟩
theorem marks_go (u0 t0 : Value) (M0 : List Msg) (G0 : List Bool) (u1 t1 : Value) (M1 : List Msg) (G1 : List Bool) (o2 : Bool) (n2 : Int) (u2 : Value) (X2 : List (List UInt8)) (w : World) (hp : PlanV w u0 t0 M0 G0) (hq : PlanV w u1 t1 M1 G1) (hx : Strs w u2 X2) :
    Calls Tryz.prog 4 #[.agg #[u0, t0], .agg #[u1, t1], .agg #[.bool o2, .int .i64 n2, u2]] w fun e w' => e = .returned (.bool true) ∧ Pure w w' := marks_walk u0 t0 u1 t1 u2 M0 M1 G0 G1 o2 n2 X2 w hp hq hx
end Go.Proofs.YtcjggofcmjpfnaaGreat
