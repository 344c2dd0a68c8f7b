/- An array of two numbers that came in by value. -/
import Derived.Test.YtcjggofcmjpfnaaGreatMSi
import Derived.OpenShut
namespace Go.Proofs.YtcjggofcmjpfnaaGreat
open Go.RowKit Go.Maps Go.ChangeShapes Go.WideShapes Go.Deep

theorem okWide_array {P : Program} {w : World} {r : Reach} {base : Nat} {t e : TypeId} {n : Nat} {v : Value} (ht : P.underlying t = some (.array n e)) (h : Value.okWide P w r base t v) : ∃ cs, v = .agg cs ∧ cs.size = P.cellsOf t := by
  simp only [Value.okWide, ht] at h
  obtain ⟨cs, h1, h2, _⟩ := h
  exact ⟨cs, h1, h2⟩

set_option maxRecDepth 8000 in
theorem arr2_of_trod {H : Type} {enc : TypeId × Value → H} {W : World} {base : Nat} {held : Bool} {r : Reach} {b0 : Nat} {v : Value} {d : DataW H} {p : List MemPlace}
    (hv : Value.okWide Tryz.prog W r b0 53 v) (h : DataW.Trod enc Tryz.prog W base (fun _ => true) held 53 v d p) :
    ∃ q0 q1 : Int, v = .agg #[.int .i64 q0, .int .i64 q1] := by
  obtain ⟨cs, rfl, hsz⟩ := okWide_array Tryz.underlying53 hv
  have hC : Tryz.prog.cellsOf 53 = 2 := by kernel_rfl
  have hC3 : Tryz.prog.cellsOf 3 = 1 := by kernel_rfl
  obtain ⟨l⟩ := cs
  match l, hsz.trans hC with
  | [c0, c1], _ =>
    obtain ⟨fuel, hf⟩ := h
    obtain ⟨ys, n, _, _, _, hyl, hg⟩ := DataW.trod_array Tryz.underlying53 hf
    match ys, hyl with
    | [y0, y1], _ =>
      have g0 : DataW.trod enc Tryz.prog W base (fun _ => true) held n 3 (([c0, c1].drop (0 * Tryz.prog.cellsOf 3)).take (Tryz.prog.cellsOf 3)) = some y0 := hg 0 (by decide)
      have g1 : DataW.trod enc Tryz.prog W base (fun _ => true) held n 3 (([c0, c1].drop (1 * Tryz.prog.cellsOf 3)).take (Tryz.prog.cellsOf 3)) = some y1 := hg 1 (by decide)
      rw [hC3] at g0 g1
      simp only [Nat.zero_mul, Nat.mul_one, List.drop_zero, List.drop_succ_cons, List.take_succ_cons, List.take_zero] at g0 g1
      obtain ⟨z0, e0, _⟩ := DataW.trod_int Tryz.underlying3 g0
      obtain ⟨z1, e1, _⟩ := DataW.trod_int Tryz.underlying3 g1
      simp only [List.cons.injEq, and_true] at e0 e1
      subst e0; subst e1
      exact ⟨z0, z1, rfl⟩
end Go.Proofs.YtcjggofcmjpfnaaGreat
