/- A slice of peers that came in, read to its cells. -/
import Derived.Test.YtlamhobkmknnpaaMade
import Derived.Deep.Slices
import Derived.Deep.Fields
import Derived.ChangeSame
namespace Go.Proofs.Ytlamhobkmknnpaa
open Go.RowKit Go.Maps Go.ChangeShapes Go.WideShapes Go.Deep

instance : Inhabited Pr := ⟨p0⟩
def PeersIn (w : World) (a : Option Addr) (len cap : Nat) (l : List Pr) : Prop := l.length = len ∧ Peers w (.slice a len cap) l
set_option maxRecDepth 8000 in
theorem peers_of_trod {H : Type} {enc : TypeId × Value → H} {W : World} {base : Nat} {held : Bool} {a : Option Addr} {len cap fuel : Nat} {x : DataW H × List MemPlace}
    (h : DataW.trod enc Try.prog W base (fun _ => true) held fuel 22 [.slice a len cap] = some x) : ∃ l, PeersIn W a len cap l := by
  rcases open_slice Try.underlying22 h with ⟨hcs, _⟩ | ⟨ad, len', cap', m, n, D, Pl, hcs, _, hl, hm, hmm, _, hi⟩
  · simp at hcs
    obtain ⟨rfl, rfl, rfl⟩ := hcs
    exact ⟨[], rfl, Row.nil _ _⟩
  · simp at hcs
    obtain ⟨rfl, rfl, rfl⟩ := hcs
    simp only [if_true] at hmm
    subst hmm
    have hC : Try.prog.cellsOf 28 = 3 := by kernel_rfl
    have hC3 : Try.prog.cellsOf 3 = 1 := by kernel_rfl
    obtain ⟨f, hf⟩ := choose_lt (α := Pr) (n := m) (p := fun k t => W.cell? (ad.add (k * 3)) = some (.int .i64 t.id) ∧ W.cell? (ad.add (k * 3 + 1)) = some (.int .i64 t.inc) ∧ W.cell? (ad.add (k * 3 + 2)) = some (.int .i64 t.st)) (fun k hk => by
      obtain ⟨cs', hc, ht⟩ := hi k hk
      rw [hC] at hc
      obtain ⟨_, hcl, hat⟩ := World.cells?_some hc
      obtain ⟨ys, n', _, _, _, hyl, hg⟩ := DataW.trod_struct Try.underlying28 ht
      match cs', hcl with
      | [c0, c1, c2], _ =>
        match ys, hyl with
        | [y0, y1, y2], _ =>
          have g0 : DataW.trod enc Try.prog W base (fun _ => true) held n' 3 (List.take (Try.prog.cellsOf 3) [c0, c1, c2]) = some y0 := hg 0 _ rfl
          have g1 : DataW.trod enc Try.prog W base (fun _ => true) held n' 3 (List.take (Try.prog.cellsOf 3) [c1, c2]) = some y1 := hg 1 _ rfl
          have g2 : DataW.trod enc Try.prog W base (fun _ => true) held n' 3 (List.take (Try.prog.cellsOf 3) [c2]) = some y2 := hg 2 _ rfl
          rw [hC3] at g0 g1 g2
          simp only [List.take_succ_cons, List.take_zero] at g0 g1 g2
          obtain ⟨z0, e0, _⟩ := DataW.trod_int Try.underlying3 g0
          obtain ⟨z1, e1, _⟩ := DataW.trod_int Try.underlying3 g1
          obtain ⟨z2, e2, _⟩ := DataW.trod_int Try.underlying3 g2
          simp only [List.cons.injEq, and_true] at e0 e1 e2
          subst e0; subst e1; subst e2
          have a0 := hat 0 (by decide)
          have a1 := hat 1 (by decide)
          have a2 := hat 2 (by decide)
          rw [Go.Deep.add_add] at a0 a1 a2
          exact ⟨⟨z0, z1, z2⟩, a0, a1, a2⟩)
    have hlen : ((List.range len).map f).length = len := by simp
    refine ⟨(List.range len).map f, hlen, ?_⟩
    refine ⟨by rw [pvs_len], some ad, m, by rw [hlen], by rw [hlen]; omega, by omega, ?_⟩
    by_cases h0 : m = 0
    · exact .inl h0
    · right
      obtain ⟨b, off, spot⟩ := ad
      have hspot : spot = none := by simpa [Addr.add] using World.cell?_spot (hf 0 (by omega)).1
      subst hspot
      have hb := (hf 0 (by omega)).1
      rw [Addr.add_lit] at hb
      refine ⟨b, off, rfl, World.block_lt_of_cell? W _ hb, fun i hi => ?_⟩
      rw [hlen] at hi
      have hk : i / 3 < len := by omega
      obtain ⟨q0, q1, q2⟩ := hf (i / 3) (by omega)
      rw [Addr.add_lit] at q0 q1 q2
      have hg := pvs_get ((List.range len).map f) (i / 3) (by rw [hlen]; exact hk) (i % 3) (by omega)
      rw [show i / 3 * 3 + i % 3 = i by omega] at hg
      have e : ((List.range len).map f).getD (i / 3) p0 = f (i / 3) := by simp [List.getD, hk]
      rw [e] at hg
      rw [hg]
      rcases (by omega : i % 3 = 0 ∨ i % 3 = 1 ∨ i % 3 = 2) with h | h | h
      · rw [h, show off + i = off + i / 3 * 3 by omega, q0]; rfl
      · rw [h, show off + i = off + (i / 3 * 3 + 1) by omega, q1]; rfl
      · rw [h, show off + i = off + (i / 3 * 3 + 2) by omega, q2]; rfl
end Go.Proofs.Ytlamhobkmknnpaa
