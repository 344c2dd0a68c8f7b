/- view: ids (Members), changed (Suspect, Refute). -/
import Derived.Test.YtlamhobkmknnpaaPeerA
import Derived.Laws.OwnMore
namespace Go.Proofs.Ytlamhobkmknnpaa
open Go.RowKit Go.Maps

theorem own_pure {w w' : World} {base n e s : Nat} {v : Value} {xs : List Value} (h : w.ownsRow base e s v n xs) (hp : Pure w w') : w'.ownsRow base e s v n xs := by
  obtain ⟨hl, h | ⟨g, cap, cur, rfl, hb, hg, r⟩⟩ := h
  · exact ⟨hl, .inl h⟩
  · exact ⟨hl, .inr ⟨g, cap, cur, rfl, hb, (hp.block g (lt_of_block hg)).trans hg, r⟩⟩
theorem own_shape_p {w : World} {base e size : Nat} {v : Value} {n : Nat} {xs : List Value} (h : w.ownsRow base e size v n xs) : ∃ a cap, v = .slice a n cap := (Row.of_own h).shape
theorem ints_lit1 (w : World) (x : Int) : Row (w.alloc (.cells #[.int .i64 x] 3)) (.slice (some ⟨w.heap.size, 0, none⟩) 1 1) 1 1 [.int .i64 x] := by
  refine ⟨rfl, _, _, rfl, Nat.le_refl _, by unfold maxLen; omega, .inr ⟨_, _, rfl, by simp, fun i hi => ?_⟩⟩
  obtain rfl : i = 0 := by omega
  rw [World.cell?_alloc_new]; rfl
set_option maxHeartbeats 1000000 in
theorem members_ids (v : Value) (l : List Pr) (w : World) (hr : Peers w v l) (hl : l.length ≤ 100000) :
    Calls Try.prog 48 #[v, .func (.func 49) #[] #[]] w fun e w' => ∃ v', e = .returned v' ∧ w'.ownsRow w.heap.size 3 1 v' (mem l).length ((mem l).map (Value.int .i64)) ∧ Pure w w' := by
  obtain ⟨a, cap, rfl⟩ := hr.shape
  obtain ⟨i0, hi, hz0, hz1, hz2⟩ := info_parts infoInt
  have Hr := hid hr
  clear hr
  go_enter Try.func48, Try.ntmps48
  go_wp2
  go_loopw [5, 10] (fun o i wr => ∃ k : Nat, k ≤ l.length ∧ i = .int .i64 k ∧ wr.ownsRow w.heap.size 3 1 o (mem (l.take k)).length ((mem (l.take k)).map (Value.int .i64)) ∧ Pure w wr) (fun _ i _ => l.length - (RowKit.intOf i).toNat)
  case atStart => exact ⟨0, Nat.zero_le _, rfl, World.ownsRow_nil _ _ _ _, Below.refl _ _⟩
  case round =>
    obtain ⟨k, hk, rfl, hown, hp⟩ := hrel
    by_cases hlt : k < l.length
    · obtain ⟨b, off, rfl, hb, c0, c1, c2⟩ := Peers.get (show Peers wr (.slice a l.length cap) l from Row.pure Hr.out hp) hlt
      have hlt' : (k : Int) < (l.length : Int) := by omega
      have hkk : (0 : Int) ≤ (k : Int) := by omega
      have Hs := hid (show mem (l.take (k + 1)) = mem (l.take k) ++ (if decide ((l.getD k p0).st ≠ 2) then [(l.getD k p0).id] else []) from by
        rw [take_succ_p l k hlt]; unfold mem; rw [List.filter_append, List.map_append]
        generalize l.getD k p0 = z; by_cases h : z.st = 2 <;> simp [h])
      have hml : (mem (l.take k)).length ≤ k := by
        unfold mem
        rw [List.length_map]
        exact Nat.le_trans (List.length_filter_le _ _) (List.length_take_le _ _)
      generalize l.getD k p0 = z at *
      generalize mem (l.take k) = Y at *
      obtain ⟨a3, c3, rfl⟩ := own_shape_p hown
      have hm1 := hid (members1_any z)
      obtain ⟨zi, zn, zs⟩ := z
      unfold pv at hm1
      dsimp only at c0 c1 c2 hm1 Hs
      have Hp := hid hp
      have Hown := hid hown
      clear hp hown
      generalize decide (zs ≠ 2) = B at *
      obtain ⟨wz, hwz⟩ : ∃ wz, wz = wr.alloc (.cells #[.int .i64 zi, .int .i64 zn, .int .i64 zs] 28) := ⟨_, rfl⟩
      have hbz : wz.heap[wr.heap.size]? = some (.cells #[.int .i64 zi, .int .i64 zn, .int .i64 zs] 28 (0, 0)) := by rw [hwz]; exact block_alloc_new _ _
      have Hpz := hid (show Pure wr wz from by rw [hwz]; exact (Below.refl _ _).alloc (Nat.le_refl _) _)
      go_wp2_with fail
      rw [← hwz]
      clear hwz
      refine (hm1.out _).mono ?_
      rintro e w2 ⟨rfl, hp2⟩
      have hb2 := (hp2.block _ (lt_of_block hbz)).trans hbz
      have d0 : w2.cell? ⟨wr.heap.size, 0, none⟩ = some (.int .i64 zi) := cell_of_block hb2 0
      have Hp2 := hid (Hpz.out.then_ hp2)
      clear hb2 hp2 hbz
      cases B with
      | true =>
        have b4 : w.heap.size ≤ (w2.alloc (.cells #[.int .i64 zi] 3)).heap.size := by have := Hp.out.size; have := Hp2.out.size; simp; omega
        go_wp2_with (at_builtin; refine wpList_append_rows rfl _ _ 23 rfl w.heap.size 3 i0 (.int .i64 0) 1 8 Try.underlying23 hi hz0 hz1 hz2 rfl (by decide) (by decide) _ Y.length (Y.map (Value.int .i64)) rfl ((own_pure Hown.out Hp2.out).alloc _) _ 1 [.int .i64 zi] rfl (ints_lit1 w2 zi) (by intro u hu; simp at hu; subst hu; rfl) (by omega) b4 ?_)
        intro v3 w3 hown3 hg3
        have Hown3 := hid hown3
        have hpn := hid ((((Hp.out.then_ Hp2.out)).alloc (by have := Hp.out.size; have := Hp2.out.size; omega) _).grown hg3 b4 (fun k hk => ((own_pure Hown.out Hp2.out).lt k hk).1))
        clear hown3 hg3
        go_wp2
        go_roundw
        case rel => exact ⟨k + 1, by omega, by go_num, by rw [Hs.out]; simpa using Hown3.out, hpn.out⟩
        case measure => simp [RowKit.intOf]; omega
      | false =>
        have hs := Hs.out
        have Hown2 := hid (own_pure Hown.out Hp2.out)
        have Hq := hid (Hp.out.then_ Hp2.out)
        have Hsn := hid (show mem (l.take (k + 1)) = Y from by simpa using hs)
        clear hs Hs
        go_wp2
        go_roundw
        case rel => exact ⟨k + 1, by omega, by go_num, by rw [Hsn.out]; exact Hown2.out, Hq.out⟩
        case measure => simp [RowKit.intOf]; omega
    · have hlt' : ¬ (k : Int) < (l.length : Int) := by omega
      rw [List.take_of_length_le (by omega)] at hown
      have Hown := hid hown
      have Hp := hid hp
      obtain ⟨a3, c3, rfl⟩ := own_shape_p hown
      clear hown hp
      go_wp2
      go_ret
      exact ⟨_, rfl, Hown.out, Hp.out⟩
end Go.Proofs.Ytlamhobkmknnpaa
