/- A plan that came in by value, read to its cells; says with their numbers' bounds. -/
import Derived.Test.YtffafdkjgllpcaaSaysOpen
import Derived.Test.YtffafdkjgllpcaaPlaysW
import Derived.OpenShut
namespace Go.Proofs.Ytffafdkjgllpcaa
open Go.RowKit Go.Maps Go.ChangeShapes Go.WideShapes Go.Deep

theorem plan_of_trod {H : Type} {enc : TypeId × Value → H} {W : World} {base : Nat} {held : Bool} {r : Reach} {b0 : Nat} {v : Value} {d : DataW H} {p : List MemPlace}
    (hv : Value.okWide Try.prog W r b0 40 v) (h : DataW.Trod enc Try.prog W base (fun _ => true) held 40 v d p) :
    ∃ (d1 d2 receipt start term skew : Int) (vo : Value) (O : List Int), v = .agg (plan d1 d2 receipt start term skew vo) ∧ Ints W vo O ∧ AllWf O := by
  obtain ⟨cs, rfl, hsz⟩ := okWide_struct Try.underlying40 hv
  have hC : Try.prog.cellsOf 40 = 7 := by kernel_rfl
  have hC27 : Try.prog.cellsOf 27 = 2 := by kernel_rfl
  have hC3 : Try.prog.cellsOf 3 = 1 := by kernel_rfl
  have hC22 : Try.prog.cellsOf 22 = 1 := by kernel_rfl
  obtain ⟨l⟩ := cs
  match l, hsz.trans hC with
  | [c0, c1, c2, c3, c4, c5, c6], _ =>
    obtain ⟨fuel, hf⟩ := h
    obtain ⟨ys, n, _, _, _, hyl, hg⟩ := DataW.trod_struct Try.underlying40 hf
    match ys, hyl with
    | [y0, y1, y2, y3, y4, y5], _ =>
      have g0 : DataW.trod enc Try.prog W base (fun _ => true) held n 27 (List.take (Try.prog.cellsOf 27) [c0, c1, c2, c3, c4, c5, c6]) = some y0 := hg 0 _ rfl
      have g1 : DataW.trod enc Try.prog W base (fun _ => true) held n 3 (List.take (Try.prog.cellsOf 3) [c2, c3, c4, c5, c6]) = some y1 := hg 1 _ rfl
      have g2 : DataW.trod enc Try.prog W base (fun _ => true) held n 3 (List.take (Try.prog.cellsOf 3) [c3, c4, c5, c6]) = some y2 := hg 2 _ rfl
      have g3 : DataW.trod enc Try.prog W base (fun _ => true) held n 3 (List.take (Try.prog.cellsOf 3) [c4, c5, c6]) = some y3 := hg 3 _ rfl
      have g4 : DataW.trod enc Try.prog W base (fun _ => true) held n 3 (List.take (Try.prog.cellsOf 3) [c5, c6]) = some y4 := hg 4 _ rfl
      have g5 : DataW.trod enc Try.prog W base (fun _ => true) held n 22 (List.take (Try.prog.cellsOf 22) [c6]) = some y5 := hg 5 _ rfl
      rw [hC3] at g1 g2 g3 g4
      rw [hC27] at g0
      rw [hC22] at g5
      simp only [List.take_succ_cons, List.take_zero] at g0 g1 g2 g3 g4 g5
      obtain ⟨z1, e1, _⟩ := DataW.trod_int Try.underlying3 g1
      obtain ⟨z2, e2, _⟩ := DataW.trod_int Try.underlying3 g2
      obtain ⟨z3, e3, _⟩ := DataW.trod_int Try.underlying3 g3
      obtain ⟨z4, e4, _⟩ := DataW.trod_int Try.underlying3 g4
      simp only [List.cons.injEq, and_true] at e1 e2 e3 e4
      subst e1; subst e2; subst e3; subst e4
      obtain ⟨us, n', _, _, _, hul, hh⟩ := DataW.trod_struct Try.underlying27 g0
      match us, hul with
      | [u0, u1], _ =>
        have k0 : DataW.trod enc Try.prog W base (fun _ => true) held n' 3 (List.take (Try.prog.cellsOf 3) [c0, c1]) = some u0 := hh 0 _ rfl
        have k1 : DataW.trod enc Try.prog W base (fun _ => true) held n' 3 (List.take (Try.prog.cellsOf 3) [c1]) = some u1 := hh 1 _ rfl
        rw [hC3] at k0 k1
        simp only [List.take_succ_cons, List.take_zero] at k0 k1
        obtain ⟨x0, e0, _⟩ := DataW.trod_int Try.underlying3 k0
        obtain ⟨x1, e1, _⟩ := DataW.trod_int Try.underlying3 k1
        simp only [List.cons.injEq, and_true] at e0 e1
        subst e0; subst e1
        rcases open_ints Try.underlying22 Try.underlying3 (by kernel_rfl) g5 with ⟨hcs, _⟩ | ⟨x, l, c, zs, hcs, _, hl, hm, hz, _, hcell, hwz⟩
        · simp at hcs
          subst hcs
          have := ints_of_row (w := W) (a := none) (len := 0) (cap := 0) (zs := []) (.inl ⟨rfl, rfl, rfl, rfl⟩)
          exact ⟨x0, x1, z1, z2, z3, z4, _, _, rfl, this.1, this.2⟩
        · simp at hcs
          subst hcs
          have := ints_of_row (w := W) (a := some x) (len := l) (cap := c) (zs := zs) (.inr ⟨_, rfl, hl, hm, by simpa using hz, hcell, hwz⟩)
          exact ⟨x0, x1, z1, z2, z3, z4, _, _, rfl, this.1, this.2⟩
end Go.Proofs.Ytffafdkjgllpcaa
