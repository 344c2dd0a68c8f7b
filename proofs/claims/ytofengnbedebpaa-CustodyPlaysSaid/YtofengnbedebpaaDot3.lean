/- ref03: Row, Of, Sort. -/
import Derived.Test.YtofengnbedebpaaDot2
namespace Go.Proofs.Ytofengnbedebpaa
open Go.RowKit Go.Maps

theorem rowB_take (l : List Dot) (k : Nat) (h : k < l.length) : (num l.length ++ (l.take (k + 1)).flatMap dotB) = (num l.length ++ (l.take k).flatMap dotB) ++ dotB (l.getD k (0, 0)) := by
  rw [take_succ_d l k h]; simp
theorem flatB_len (l : List Dot) (h : ∀ d ∈ l, Small d) : (l.flatMap dotB).length ≤ 20 * l.length := by
  induction l with
  | nil => simp
  | cons d l ih =>
    have h1 := dotB_len d (h d (by simp))
    have h2 := ih (fun x hx => h x (by simp [hx]))
    rw [List.flatMap_cons, List.length_append, List.length_cons]; omega

set_option maxRecDepth 8000 in
set_option maxHeartbeats 1000000 in
theorem rrow_any (v : Value) (l : List Dot) (w : World) (hr : Dots w v l) (hs : ∀ d ∈ l, Small d) (hl : l.length ≤ 1000000) :
    Calls Try.prog 52 #[v] w fun r w' => r = .returned (.string (bs (rowB l))) ∧ Pure w w' := by
  obtain ⟨a, cap, rfl⟩ := hr.shape
  have Hr := hid hr
  have Hs := hid hs
  have hi := hid (rint_any l.length w (by omega) (by omega))
  unfold rowB
  clear hr hs
  go_enter Try.func52, Try.ntmps52
  go_wp2_with (go_at_call 29; refine hi.out.mono ?_; rintro e w1 ⟨rfl, hp1⟩; have Hp1 := hid hp1; clear hp1)
  go_loopw [3, 4] (fun s i wr => ∃ k : Nat, k ≤ l.length ∧ i = .int .i64 k ∧ s = .string (bs (num l.length ++ (l.take k).flatMap dotB)) ∧ Pure w wr) (fun _ i _ => l.length - (RowKit.intOf i).toNat)
  case atStart => exact ⟨0, Nat.zero_le _, rfl, by simp, Hp1.out⟩
  case round =>
    obtain ⟨k, hk, rfl, rfl, hp⟩ := hrel
    by_cases hlt : k < l.length
    · obtain ⟨b, off, rfl, hb, c0, c1⟩ := Dots.get (show Dots wr (.slice a l.length cap) l from Row.pure Hr.out hp) hlt
      have hlt' : (k : Int) < (l.length : Int) := by omega
      have Hstep := hid (rowB_take l k hlt)
      have hsm := Hs.out _ (mem_get_d hlt)
      have hb1 := dotB_len _ hsm
      have hb2 : ((l.take k).flatMap dotB).length ≤ 20000000 := Nat.le_trans (flatB_len (l.take k) (fun d hd => Hs.out d (List.mem_of_mem_take hd))) (by rw [List.length_take]; omega)
      have hb3 := num_len l.length (by omega)
      have hcall := hid (rdbytes_any (l.getD k (0, 0)) wr hsm)
      have Hp := hid hp
      clear hp hsm
      generalize hze : l.getD k (0, 0) = z at *
      obtain ⟨z1, z2⟩ := z
      dsimp only at c0 c1
      have hns : ¬ 9223372036854775807 < (bs (num l.length ++ (l.take k).flatMap dotB)).size + (bs (dotB (z1, z2))).size := by rw [bs_size, bs_size, List.length_append]; omega
      have happ := hid (bs_append (num l.length ++ (l.take k).flatMap dotB) (dotB (z1, z2)))
      clear hb1 hb2 hb3 hze
      unfold dv at hcall
      generalize bs (dotB (z1, z2)) = Z at *
      generalize hS : bs (num l.length ++ (l.take k).flatMap dotB) = S at *
      clear hS
      go_wp2_with (go_at_call 30; refine hcall.out.mono ?_; rintro e w2 ⟨rfl, hp2⟩; have Hp2 := hid hp2; clear hp2)
      go_roundw
      case rel => exact ⟨k + 1, by omega, by go_num, by rw [Hstep.out, ← happ.out], Hp.out.then_ Hp2.out⟩
      case measure => simp [RowKit.intOf]; omega
    · have hlt' : ¬ (k : Int) < (l.length : Int) := by omega
      have e : l.take k = l := List.take_of_length_le (by omega)
      rw [e]
      have Hp := hid hp
      clear hp e
      go_wp2
      go_ret
      exact ⟨rfl, Hp.out⟩
end Go.Proofs.Ytofengnbedebpaa
