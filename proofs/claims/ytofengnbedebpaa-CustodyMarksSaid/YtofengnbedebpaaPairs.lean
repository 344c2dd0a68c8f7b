/- A row of pairs of numbers that came in, read to its cells. -/
import Derived.Test.YtofengnbedebpaaMarks
import Derived.Test.YtofengnbedebpaaArrOpen
import Derived.Deep.Slices
import Derived.Deep.Fields
import Derived.ChangeSame
namespace Go.Proofs.Ytofengnbedebpaa
open Go.RowKit Go.Maps Go.ChangeShapes Go.WideShapes Go.Deep

def PairsAt (w : World) (a : Option Addr) (len cap : Nat) (l : List Dot) : Prop := l.length = len ∧ Dots w (.slice a len cap) l
set_option maxRecDepth 8000 in
theorem pairs_of_trod {H : Type} {enc : TypeId × Value → H} {W : World} {base : Nat} {held : Bool} {a : Option Addr} {len cap fuel : Nat} {x : DataW H × List MemPlace}
    (h : DataW.trod enc Try.prog W base (fun _ => true) held fuel 45 [.slice a len cap] = some x) : ∃ l, PairsAt W a len cap l := by
  rcases open_slice Try.underlying45 h with ⟨hcs, _⟩ | ⟨ad, len', cap', m, n, D, Pl, hcs, _, hl, hm, hmm, _, hi⟩
  · simp at hcs
    obtain ⟨rfl, rfl, rfl⟩ := hcs
    exact ⟨[], rfl, Row.nil _ _⟩
  · simp at hcs
    obtain ⟨rfl, rfl, rfl⟩ := hcs
    simp only [if_true] at hmm
    subst hmm
    have hC : Try.prog.cellsOf 41 = 2 := by kernel_rfl
    have hC3 : Try.prog.cellsOf 3 = 1 := by kernel_rfl
    obtain ⟨f, hf⟩ := choose_lt (α := Int × Int) (n := m) (p := fun k t => W.cell? (ad.add (k * 2)) = some (.int .i64 t.1) ∧ W.cell? (ad.add (k * 2 + 1)) = some (.int .i64 t.2)) (fun k hk => by
      obtain ⟨cs', hc, ht⟩ := hi k hk
      rw [hC] at hc
      obtain ⟨_, hcl, hat⟩ := World.cells?_some hc
      obtain ⟨ys, n', _, _, _, hyl, hg⟩ := DataW.trod_array Try.underlying41 ht
      match cs', hcl with
      | [c0, c1], _ =>
        match ys, hyl with
        | [y0, y1], _ =>
          have g0 : DataW.trod enc Try.prog W base (fun _ => true) held n' 3 (([c0, c1].drop (0 * Try.prog.cellsOf 3)).take (Try.prog.cellsOf 3)) = some y0 := hg 0 (by decide)
          have g1 : DataW.trod enc Try.prog W base (fun _ => true) held n' 3 (([c0, c1].drop (1 * Try.prog.cellsOf 3)).take (Try.prog.cellsOf 3)) = some y1 := hg 1 (by decide)
          rw [hC3] at g0 g1
          simp only [Nat.mul_one, List.drop_zero, List.drop_succ_cons, List.take_succ_cons, List.take_zero] at g0 g1
          obtain ⟨z0, e0, _⟩ := DataW.trod_int Try.underlying3 g0
          obtain ⟨z1, e1, _⟩ := DataW.trod_int Try.underlying3 g1
          simp only [List.cons.injEq, and_true] at e0 e1
          subst e0; subst e1
          have a0 := hat 0 (by decide)
          have a1 := hat 1 (by decide)
          rw [Go.Deep.add_add] at a0 a1
          exact ⟨(z0, z1), a0, a1⟩)
    have hll : ((List.range len).map f).length = len := by simp
    refine ⟨(List.range len).map f, hll, ?_⟩
    unfold Dots
    rw [hll]
    refine ⟨by rw [dvs_len, hll], some ad, m, rfl, hl, hm, ?_⟩
    by_cases h0 : m = 0
    · exact .inl h0
    · right
      obtain ⟨b, off, spot⟩ := ad
      have hspot : spot = none := by simpa [Addr.add] using World.cell?_spot (hf 0 (by omega)).1
      subst hspot
      have hb0 := (hf 0 (by omega)).1
      rw [Addr.add_lit] at hb0
      refine ⟨b, off, rfl, World.block_lt_of_cell? W _ hb0, fun i hi' => ?_⟩
      have hk : i / 2 < len := by omega
      obtain ⟨d0, d1⟩ := dvs_get ((List.range len).map f) (i / 2) (by rw [hll]; exact hk)
      have e : ((List.range len).map f).getD (i / 2) (0, 0) = f (i / 2) := by simp [List.getD, hk]
      rw [e] at d0 d1
      obtain ⟨c0, c1⟩ := hf (i / 2) (by omega)
      rw [Addr.add_lit] at c0 c1
      rcases Nat.mod_two_eq_zero_or_one i with hm2 | hm2
      · have ei : i = i / 2 * 2 := by omega
        rw [ei, d0]; exact c0
      · have ei : i = i / 2 * 2 + 1 := by omega
        rw [ei, d1]; exact c1
theorem marks_walk2 (a : Option Addr) (len cap : Nat) (L : List Dot) (w : World) (h : PairsAt w a len cap L) :
    Calls Try.prog 5 #[.slice a len cap] w fun e w' => e = .returned (.bool true) ∧ Pure w w' := marks_walk _ L w h.2
end Go.Proofs.Ytofengnbedebpaa
