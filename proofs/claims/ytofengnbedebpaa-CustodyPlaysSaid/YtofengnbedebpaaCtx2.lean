/- ref04: of. -/
import Derived.Test.YtofengnbedebpaaCtx
namespace Go.Proofs.Ytofengnbedebpaa
open Go.RowKit Go.Maps

def cstep (s : Int × List Dot) (d : Dot) : Int × List Dot := if d.2 = s.1 + 1 then (s.1 + 1, s.2) else if s.1 < d.2 then (s.1, s.2 ++ [d]) else s
def cfold (upto : Int) (l : List Dot) : Int × List Dot := l.foldl cstep (upto, [])
def cof (node upto : Int) (beyond : List Dot) : Int × List Dot := cfold upto ((dsort beyond).filter fun d => d.1 == node)
theorem cfold_take (upto : Int) (l : List Dot) (k : Nat) (h : k < l.length) : cfold upto (l.take (k + 1)) = cstep (cfold upto (l.take k)) (l.getD k (0, 0)) := by
  rw [take_succ_d l k h]; simp [cfold]
theorem cstep_bd (s : Int × List Dot) (d : Dot) : s.1 ≤ (cstep s d).1 ∧ (cstep s d).1 ≤ s.1 + 1 ∧ (cstep s d).2.length ≤ s.2.length + 1 := by
  unfold cstep; split
  · exact ⟨by simp; omega, by simp, by simp⟩
  · split
    · exact ⟨by simp, by simp; omega, by simp⟩
    · exact ⟨by simp, by omega, by omega⟩
theorem cfold_bd (upto : Int) (l : List Dot) : ∀ k, k ≤ l.length → upto ≤ (cfold upto (l.take k)).1 ∧ (cfold upto (l.take k)).1 ≤ upto + k ∧ (cfold upto (l.take k)).2.length ≤ k
  | 0, _ => by simp [cfold]
  | k + 1, h => by
    obtain ⟨h1, h2, h3⟩ := cfold_bd upto l k (by omega)
    obtain ⟨g1, g2, g3⟩ := cstep_bd (cfold upto (l.take k)) (l.getD k (0, 0))
    rw [cfold_take upto l k (by omega)]
    exact ⟨by omega, by omega, by omega⟩
theorem dsort_len (l : List Dot) : (dsort l).length ≤ l.length := by
  have := dsort_len_take l l.length (Nat.le_refl _)
  rwa [List.take_length] at this

set_option maxHeartbeats 2000000 in
theorem rofs_any (node upto : Int) (v : Value) (beyond : List Dot) (w : World) (hr : Dots w v beyond) (hl : beyond.length ≤ 100000) (h0 : 0 ≤ upto) (h1 : upto ≤ 1152921504606846976) :
    Calls Try.prog 75 #[.int .i64 node, .int .i64 upto, v] w fun r w' => ∃ v', r = .returned (.tuple #[.int .i64 (cof node upto beyond).1, v']) ∧ w'.ownsRow w.heap.size 67 2 v' (cof node upto beyond).2.length (dvs (cof node upto beyond).2) ∧ Pure w w' := by
  have hs := hid (rsort_any v beyond w hr hl)
  have hdl := dsort_len beyond
  have ho := hid (fun W u (hu : Dots W u (dsort beyond)) => rof_any u (dsort beyond) node W hu (by omega))
  obtain ⟨a, cap, rfl⟩ := hr.shape
  have hfl : ((dsort beyond).filter fun d => d.1 == node).length ≤ 100000 := Nat.le_trans (List.length_filter_le _ _) (by omega)
  unfold cof
  clear hr
  generalize (dsort beyond).filter (fun d => d.1 == node) = l at *
  go_enter Try.func75, Try.ntmps75
  go_wp2_with fail
  refine hs.out.mono ?_
  rintro e w1 ⟨v1, rfl, hown1, hp1⟩
  have Ho := hid (ho.out w1 v1 (Row.of_own hown1))
  obtain ⟨a1, c1, rfl⟩ := own_shape_d hown1
  have Hp1 := hid hp1
  clear hown1 hp1 hs ho
  generalize (dsort beyond).length = N1 at *
  go_wp2_with fail
  refine Ho.out.mono ?_
  rintro e w2 ⟨v2, rfl, hi2, hp2⟩
  have Hr := hid hi2
  have Hp2 := hid (Hp1.out.then_ hp2)
  obtain ⟨a2, c2, rfl⟩ := hi2.shape
  clear hi2 hp2 Ho
  go_wp2_with fail
  go_loopw [1, 9, 10] (fun u v i wr => ∃ k : Nat, k ≤ l.length ∧ i = .int .i64 k ∧ u = .int .i64 (cfold upto (l.take k)).1 ∧ wr.ownsRow w2.heap.size 67 2 v (cfold upto (l.take k)).2.length (dvs (cfold upto (l.take k)).2) ∧ Pure w2 wr) (fun _ _ i _ => l.length - (RowKit.intOf i).toNat)
  case atStart => exact ⟨0, Nat.zero_le _, rfl, rfl, World.ownsRow_nil _ _ _ _, Below.refl _ _⟩
  case round =>
    obtain ⟨k, hk, rfl, rfl, hown, hp⟩ := hrel
    by_cases hlt : k < l.length
    · obtain ⟨b, off, rfl, hb, c0, c1'⟩ := Dots.get (show Dots wr (.slice a2 l.length c2) l from Row.pure Hr.out hp) hlt
      have hlt' : (k : Int) < (l.length : Int) := by omega
      have hstep := cfold_take upto l k hlt
      obtain ⟨b1, b2, b3⟩ := cfold_bd upto l k hk
      generalize cfold upto (l.take k) = s at *
      obtain ⟨u, Y⟩ := s
      dsimp only at b1 b2 b3 hown
      obtain ⟨a3, c3, rfl⟩ := own_shape_d hown
      have Hown := hid hown
      have Hp := hid hp
      have Hstep := hid hstep
      clear hown hp hstep
      generalize l.getD k (0, 0) = z at *
      obtain ⟨z1, z2⟩ := z
      dsimp only at c0 c1'
      have hwr : IntKind.i64.wrap (u + 1) = u + 1 := IntWalk.i64_in _ (by omega)
      by_cases he : z2 = u + 1
      · have he' : (z2 == u + 1) = true := by simp [he]
        have Hx := hid (show cfold upto (l.take (k + 1)) = (u + 1, Y) by rw [Hstep.out]; simp [cstep, he])
        clear he
        go_wp2
        go_roundw
        case rel => exact ⟨k + 1, by omega, by go_num, by rw [Hx.out], by rw [Hx.out]; exact Hown.out, Hp.out⟩
        case measure => simp [RowKit.intOf]; omega
      · have he' : (z2 == u + 1) = false := by simp [he]
        by_cases hgt : u < z2
        · have Hx := hid (show cfold upto (l.take (k + 1)) = (u, Y ++ [(z1, z2)]) by rw [Hstep.out]; simp [cstep, he, hgt])
          have b4 : w2.heap.size ≤ (wr.alloc (.cells #[.int .i64 z1, .int .i64 z2] 67)).heap.size := by have := Hp.out.size; simp; omega
          clear he
          go_wp2_with (at_builtin; refine wpList_append_dots rfl _ _ rfl w2.heap.size _ Y Y.length rfl (Hown.out.alloc _) _ [(z1, z2)] 1 rfl (dots_lit wr z1 z2) (by omega) b4 ?_)
          intro v3 w3 hown3 hg3
          have Hown3 := hid hown3
          have hpn := hid ((Hp.out.alloc Hp.out.size _).grown hg3 (by have := Hp.out.size; simp; omega) (fun k hk => (Hown.out.lt k hk).1))
          clear hown3 hg3
          go_wp2
          go_roundw
          case rel => exact ⟨k + 1, by omega, by go_num, by rw [Hx.out], by rw [Hx.out]; simpa using Hown3.out, hpn.out⟩
          case measure => simp [RowKit.intOf]; omega
        · have Hx := hid (show cfold upto (l.take (k + 1)) = (u, Y) by rw [Hstep.out]; simp [cstep, he, hgt])
          clear he
          go_wp2
          go_roundw
          case rel => exact ⟨k + 1, by omega, by go_num, by rw [Hx.out], by rw [Hx.out]; exact Hown.out, Hp.out⟩
          case measure => simp [RowKit.intOf]; omega
    · have hlt' : ¬ (k : Int) < (l.length : Int) := by omega
      rw [List.take_of_length_le (by omega)] at hown ⊢
      generalize hse : cfold upto l = s at *
      have Hse := hid hse
      clear hse
      obtain ⟨u, Y⟩ := s
      dsimp only at hown
      obtain ⟨a3, c3, rfl⟩ := own_shape_d hown
      have Hown := hid hown
      have Hp := hid hp
      clear hp hown
      go_wp2
      go_ret2
      exact ⟨.slice a3 Y.length c3, by rw [Hse.out]; rfl, by rw [Hse.out]; exact own_mono Hown.out Hp2.out.size, Hp2.out.then_ Hp.out⟩
end Go.Proofs.Ytofengnbedebpaa
