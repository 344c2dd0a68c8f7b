/- A message and an Ask of law05 that came in, read to their cells. -/
import Derived.Test.YtbcbmnifbflmaaaGreatPO5
namespace Go.Proofs.YtbcbmnifbflmaaaGreat
open Go.RowKit Go.Maps Go.ChangeShapes Go.WideShapes Go.Deep

set_option maxRecDepth 8000 in
theorem msg_of_trod {H : Type} {enc : TypeId × Value → H} {W : World} {base : Nat} {held : Bool} {r : Reach} {b0 : Nat} {v : Value} {d : DataW H} {p : List MemPlace}
    (hv : Value.okWide Tryz.prog W r b0 41 v) (h : DataW.Trod enc Tryz.prog W base (fun _ => true) held 41 v d p) : ∃ m : Msg, v = mv m := by
  obtain ⟨cs, rfl, hsz⟩ := okWide_struct Tryz.underlying41 hv
  have hC : Tryz.prog.cellsOf 41 = 5 := by kernel_rfl
  obtain ⟨l⟩ := cs
  match l, hsz.trans hC with
  | [c0, c1, c2, c3, c4], _ =>
    obtain ⟨fuel, hf⟩ := h
    obtain ⟨m, rfl, rfl, rfl, rfl, rfl⟩ := msg_cells hf
    exact ⟨m, rfl⟩
set_option maxRecDepth 8000 in
theorem ask5_of_trod {H : Type} {enc : TypeId × Value → H} {W : World} {base : Nat} {held : Bool} {r : Reach} {b0 : Nat} {v : Value} {d : DataW H} {p : List MemPlace}
    (hv : Value.okWide Tryz.prog W r b0 47 v) (h : DataW.Trod enc Tryz.prog W base (fun _ => true) held 47 v d p) : ∃ (a b : Bool) (n : Int), v = .agg #[.bool a, .bool b, .int .i64 n] := by
  obtain ⟨cs, rfl, hsz⟩ := okWide_struct Tryz.underlying47 hv
  have hC : Tryz.prog.cellsOf 47 = 3 := by kernel_rfl
  have hC1 : Tryz.prog.cellsOf 4 = 1 := by kernel_rfl
  have hC2 : Tryz.prog.cellsOf 3 = 1 := by kernel_rfl
  obtain ⟨l⟩ := cs
  match l, hsz.trans hC with
  | [c0, c1, c2], _ =>
    obtain ⟨fuel, hf⟩ := h
    obtain ⟨ys, n', _, _, _, hyl, hg⟩ := DataW.trod_struct Tryz.underlying47 hf
    match ys, hyl with
    | [y0, y1, y2], _ =>
      have g0 : DataW.trod enc Tryz.prog W base (fun _ => true) held n' 4 (List.take (Tryz.prog.cellsOf 4) [c0, c1, c2]) = some y0 := hg 0 _ rfl
      have g1 : DataW.trod enc Tryz.prog W base (fun _ => true) held n' 4 (List.take (Tryz.prog.cellsOf 4) [c1, c2]) = some y1 := hg 1 _ rfl
      have g2 : DataW.trod enc Tryz.prog W base (fun _ => true) held n' 3 (List.take (Tryz.prog.cellsOf 3) [c2]) = some y2 := hg 2 _ rfl
      rw [hC1] at g0 g1
      rw [hC2] at g2
      simp only [List.take_succ_cons, List.take_zero] at g0 g1 g2
      obtain ⟨a, e0, _⟩ := DataW.trod_bool Tryz.underlying4 g0
      obtain ⟨b, e1, _⟩ := DataW.trod_bool Tryz.underlying4 g1
      obtain ⟨z, e2, _⟩ := DataW.trod_int Tryz.underlying3 g2
      simp only [List.cons.injEq, and_true] at e0 e1 e2
      exact ⟨a, b, z, by rw [e0, e1, e2]⟩
end Go.Proofs.YtbcbmnifbflmaaaGreat
