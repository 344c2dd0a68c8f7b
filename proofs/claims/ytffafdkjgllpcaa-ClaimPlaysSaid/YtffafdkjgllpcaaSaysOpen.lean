import Derived.Test.YtffafdkjgllpcaaStaysC
import Derived.Deep.Slices
import Derived.Deep.Fields
import Derived.ChangeSame
namespace Go.Proofs.Ytffafdkjgllpcaa
open Go.RowKit Go.Maps Go.ChangeShapes Go.WideShapes Go.Deep
/-! A row of Say that came in, read to its cells. -/
theorem says_of_trod {H : Type} {enc : TypeId × Value → H} {W : World} {base : Nat} {held : Bool} {a : Option Addr} {len cap fuel : Nat} {x : DataW H × List MemPlace}
    (h : DataW.trod enc Try.prog W base (fun _ => true) held fuel 35 [.slice a len cap] = some x) : ∃ l, Says W a len cap l := by
  rcases open_slice Try.underlying35 h with ⟨hcs, _⟩ | ⟨ad, len', cap', m, n, D, Pl, hcs, _, hl, hm, hmm, _, hi⟩
  · simp at hcs
    obtain ⟨rfl, rfl, rfl⟩ := hcs
    exact ⟨[], rfl, Nat.le_refl _, Nat.zero_le _, fun k hk => absurd hk (Nat.not_lt_zero _)⟩
  · simp at hcs
    obtain ⟨rfl, rfl, rfl⟩ := hcs
    simp only [if_true] at hmm
    subst hmm
    have hC : Try.prog.cellsOf 37 = 3 := by kernel_rfl
    have hC3 : Try.prog.cellsOf 3 = 1 := by kernel_rfl
    have hC4 : Try.prog.cellsOf 4 = 1 := by kernel_rfl
    obtain ⟨f, hf⟩ := choose_lt (α := Int × Bool × Bool) (n := m) (p := fun k t => W.cell? (ad.add (k * 3)) = some (.int .i64 t.1) ∧ W.cell? (ad.add (k * 3 + 1)) = some (.bool t.2.1) ∧ W.cell? (ad.add (k * 3 + 2)) = some (.bool t.2.2)) (fun k hk => by
      obtain ⟨cs', hc, ht⟩ := hi k hk
      rw [hC] at hc
      obtain ⟨_, hcl, hat⟩ := World.cells?_some hc
      obtain ⟨ys, n', _, _, _, hyl, hg⟩ := DataW.trod_struct Try.underlying37 ht
      match cs', hcl with
      | [c0, c1, c2], _ =>
        match ys, hyl with
        | [y0, y1, y2], _ =>
          have g0 : DataW.trod enc Try.prog W base (fun _ => true) held n' 3 (List.take (Try.prog.cellsOf 3) [c0, c1, c2]) = some y0 := hg 0 _ rfl
          have g1 : DataW.trod enc Try.prog W base (fun _ => true) held n' 4 (List.take (Try.prog.cellsOf 4) [c1, c2]) = some y1 := hg 1 _ rfl
          have g2 : DataW.trod enc Try.prog W base (fun _ => true) held n' 4 (List.take (Try.prog.cellsOf 4) [c2]) = some y2 := hg 2 _ rfl
          rw [hC3] at g0
          rw [hC4] at g1 g2
          simp only [List.take_succ_cons, List.take_zero] at g0 g1 g2
          obtain ⟨z0, e0, _⟩ := DataW.trod_int Try.underlying3 g0
          obtain ⟨z1, e1, _⟩ := DataW.trod_bool Try.underlying4 g1
          obtain ⟨z2, e2, _⟩ := DataW.trod_bool Try.underlying4 g2
          simp only [List.cons.injEq, and_true] at e0 e1 e2
          subst e0; subst e1; subst e2
          have a0 := hat 0 (by decide)
          have a1 := hat 1 (by decide)
          have a2 := hat 2 (by decide)
          rw [Go.Deep.add_add] at a0 a1 a2
          exact ⟨(z0, z1, z2), a0, a1, a2⟩)
    refine ⟨(List.range len).map f, by simp, hl, hm, fun k hk => ?_⟩
    have hkm : k < m := by omega
    obtain ⟨c0, c1, c2⟩ := hf k hkm
    obtain ⟨b, off, spot⟩ := ad
    have hspot : spot = none := by simpa [Addr.add] using World.cell?_spot (hf 0 (by omega)).1
    subst hspot
    have e : ((List.range len).map f).getD k (0, false, false) = f k := by simp [List.getD, hk]
    rw [e]
    rw [Addr.add_lit] at c0 c1 c2
    exact ⟨b, off, rfl, World.block_lt_of_cell? W _ c0, c0, by rw [Nat.add_assoc]; exact c1, by rw [Nat.add_assoc]; exact c2⟩
end Go.Proofs.Ytffafdkjgllpcaa
