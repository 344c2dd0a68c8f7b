/- law18's awake. -/
import Derived.Test.YtofengnbedebpaaCus6
namespace Go.Proofs.Ytofengnbedebpaa
open Go.RowKit Go.Maps Go.MapKept

theorem keep_to {base c : Nat} {S S' : CuS} {p : Int} {k : Nat} {b : Bool} {v : Value} {w : World} (h : Cu w base c S) (hat : BagAt w v (oneB k)) (hk : k ≤ 7) (hw : (Lit.int .i64 p).wf = true) (hb : ckeep S p (mk k) (decide (k = 0)) = (S', b)) :
    Calls Try.prog 12 #[.pointer (some ⟨c, 0, none⟩), .int .i64 p, v] w fun e w' => e = .returned (.bool b) ∧ Cu w' base c S' ∧ KC base c w w' := by
  have := cukeep_any base c S p v (oneB k) w h hat (oneB_small hk) hw
  rw [oneB_empty] at this
  unfold mk at hb
  rw [hb] at this
  exact this
theorem heard_to {base c : Nat} {S S' : CuS} {p node : Int} {m : List UInt8} {b : Bool} {w : World} (h : Cu w base c S) (hw : (Lit.int .i64 p).wf = true) (hw2 : (Lit.int .i64 node).wf = true) (hb : cheard S p node m = (S', b)) :
    Calls Try.prog 13 #[.pointer (some ⟨c, 0, none⟩), .int .i64 p, .int .i64 node, .string (bs m)] w fun e w' => e = .returned (.bool b) ∧ Cu w' base c S' ∧ KC base c w w' := by
  have := cuheard_any base c S p node m w h hw hw2
  rw [hb] at this
  exact this
theorem lack_to {base c : Nat} {S : CuS} {p : Int} {v : Value} {o l : List Int} {w : World} (h : Cu w base c S) (hv : Ints w v o) (hw : (Lit.int .i64 p).wf = true) (hwo : AllWf o) (hl : o.length ≤ 1000) (he : clack S p o = l) :
    Calls Try.prog 15 #[.pointer (some ⟨c, 0, none⟩), .int .i64 p, v] w fun r w' => ∃ a cap, r = .returned (.slice a l.length cap) ∧ w'.ownsRow w.heap.size 3 1 (.slice a l.length cap) l.length (l.map (Value.int .i64)) ∧ Pure w w' := by
  subst he
  refine (culack_any base c S p v o w h hv hw hwo hl).mono ?_
  rintro r w' ⟨v', rfl, hown, hp⟩
  obtain ⟨a, cap, rfl⟩ := own_shape_d hown
  exact ⟨a, cap, rfl, hown, hp⟩
theorem one_to {k : Nat} (n : Int) (w : World) (hk : n7 n = k) :
    Calls Try.prog 10 #[.int .i64 n] w fun r w' => ∃ v0 v1 v2, r = .returned (.agg #[v0, v1, v2]) ∧ BagAt w' (.agg #[v0, v1, v2]) (oneB k) ∧ Pure w w' := by
  subst hk
  refine (one_any n w).mono ?_
  rintro r w' ⟨v, rfl, hat, hp⟩
  have h := hat
  obtain ⟨v0, v1, v2, rfl, _⟩ := h
  exact ⟨v0, v1, v2, rfl, hat, hp⟩
theorem bytes_to {k : Nat} {v : Value} {w : World} (hat : BagAt w v (oneB k)) (hk : k ≤ 7) :
    Calls Try.prog 14 #[v] w fun e w' => e = .returned (.string (bs (mk k))) ∧ Pure w w' := rbbytes_any v (oneB k) w hat (oneB_small hk)

theorem aw_n1 : n7 1 = 1 := by decide
theorem aw_n2 : n7 2 = 2 := by decide
theorem aw_k1 : ckeep [] 3 (mk 1) (decide (1 = 0)) = ([(3, mk 1, [])], true) := rfl
theorem aw_h1 : cheard [(3, mk 1, [])] 3 7 (mk 1) = ([(3, mk 1, [7])], true) := by simp [cheard, cfind, cset]
theorem aw_l1 : clack [(3, mk 1, [7])] 3 [7, 8] = [8] := by simp only [clack, cfind]; rfl
theorem aw_k2 : ckeep [(3, mk 1, [7])] 3 (mk 2) (decide (2 = 0)) = ([(3, mk 2, [])], true) := by
  have h : mk 1 ≠ mk 2 := fun h => by have := mk_inj (by decide) (by decide) h; omega
  simp [ckeep, cfind, cset, h]
theorem aw_l2 : clack [(3, mk 2, [])] 3 [7, 8] = [7, 8] := by simp only [clack, cfind]; rfl
theorem wf78 : AllWf [7, 8] := by intro x hx; simp at hx; rcases hx with rfl | rfl <;> rfl

set_option maxHeartbeats 2000000 in
theorem awake_any (w : World) : Calls Try.prog 8 #[] w fun e w' => e = .returned (.bool true) ∧ Pure w w' := by
  obtain ⟨n, hn⟩ : ∃ n, n = w.heap.size := ⟨_, rfl⟩
  have Hn := hid hn
  clear hn
  go_enter Try.func8, Try.ntmps8
  go_wp2_with fail
  refine (cunew_any w).mono ?_
  rintro e w1 ⟨rfl, hc, hp⟩
  rw [← Hn.out] at hc ⊢
  have Hc := hid hc
  have Hp := hid hp
  clear hc hp
  go_wp2_with fail
  refine (one_to 1 w1 aw_n1).mono ?_
  rintro e w2 ⟨v0, v1, v2, rfl, hat, hp2⟩
  have Hat := hid hat
  have Hp2 := hid (Hp.out.then_ hp2)
  have Hc2 := hid (Hc.out.pure hp2)
  clear hat hp2
  go_wp2_with fail
  refine (keep_to Hc2.out Hat.out (by decide) rfl aw_k1).mono ?_
  rintro e w3 ⟨rfl, hc3, hk3⟩
  have Hc3 := hid hc3
  have Hp3 := hid (Hp2.out.kc hk3 (by rw [← Hn.out]; exact Nat.le_refl _))
  clear hc3 hk3 Hat
  go_wp2_with fail
  refine (one_to 1 w3 aw_n1).mono ?_
  rintro e w4 ⟨x0, x1, x2, rfl, hat, hp2⟩
  have Hat := hid hat
  have Hp4 := hid (Hp3.out.then_ hp2)
  have Hc4 := hid (Hc3.out.pure hp2)
  clear hat hp2
  go_wp2_with fail
  refine (bytes_to Hat.out (by decide)).mono ?_
  rintro e w5 ⟨rfl, hp2⟩
  have Hp5 := hid (Hp4.out.then_ hp2)
  have Hc5 := hid (Hc4.out.pure hp2)
  clear hp2 Hat
  have hh := hid (heard_to Hc5.out (p := 3) (node := 7) rfl rfl aw_h1)
  generalize bs (mk 1) = M1 at hh ⊢
  go_wp2_with fail
  refine hh.out.mono ?_
  rintro e w6 ⟨rfl, hc6, hk6⟩
  have Hc6 := hid hc6
  have Hp6 := hid (Hp5.out.kc hk6 (by rw [← Hn.out]; exact Nat.le_refl _))
  clear hc6 hk6
  have hl6 := hid (lack_to (Hc6.out.pure ((Below.refl _ w6).alloc (Nat.le_refl _) (.cells #[.int .i64 7, .int .i64 8] 3))) (ints_lit (w := w6) (l := [7, 8]) (by decide)) (p := 3) rfl wf78 (by decide) aw_l1)
  have Hpa := hid (Hp6.out.then_ ((Below.refl _ w6).alloc (Nat.le_refl _) (.cells #[.int .i64 7, .int .i64 8] 3)))
  have Hca := hid (Hc6.out.pure ((Below.refl _ w6).alloc (Nat.le_refl _) (.cells #[.int .i64 7, .int .i64 8] 3)))
  go_wp2_with fail
  refine hl6.out.mono ?_
  rintro e w7 ⟨a7, q7, rfl, hown7, hp7⟩
  have hs7 := hid (same_at ((Row.of_own hown7).pure ((Below.refl _ w7).alloc (Nat.le_refl _) _)) (ints_lit (w := w7) (l := [8]) (by decide)) true rfl)
  have Hp7 := hid ((Hpa.out.then_ hp7).then_ ((Below.refl _ w7).alloc (Nat.le_refl _) (.cells #[.int .i64 8] 3)))
  have Hc7 := hid ((Hca.out.pure hp7).pure ((Below.refl _ w7).alloc (Nat.le_refl _) (.cells #[.int .i64 8] 3)))
  clear hown7 hp7
  go_wp2_with fail
  refine hs7.out.mono ?_
  rintro e w8 ⟨rfl, hp8⟩
  have Hp8 := hid (Hp7.out.then_ hp8)
  have Hc8 := hid (Hc7.out.pure hp8)
  clear hp8
  go_wp2_with fail
  refine (one_to 2 w8 aw_n2).mono ?_
  rintro e w9 ⟨y0, y1, y2, rfl, hat, hp2⟩
  have Hat := hid hat
  have Hp9 := hid (Hp8.out.then_ hp2)
  have Hc9 := hid (Hc8.out.pure hp2)
  clear hat hp2
  go_wp2_with fail
  refine (keep_to Hc9.out Hat.out (by decide) rfl aw_k2).mono ?_
  rintro e w10 ⟨rfl, hc10, hk10⟩
  have Hc10 := hid hc10
  have Hp10 := hid (Hp9.out.kc hk10 (by rw [← Hn.out]; exact Nat.le_refl _))
  clear hc10 hk10 Hat
  have hl10 := hid (lack_to (Hc10.out.pure ((Below.refl _ w10).alloc (Nat.le_refl _) (.cells #[.int .i64 7, .int .i64 8] 3))) (ints_lit (w := w10) (l := [7, 8]) (by decide)) (p := 3) rfl wf78 (by decide) aw_l2)
  have Hpb := hid (Hp10.out.then_ ((Below.refl _ w10).alloc (Nat.le_refl _) (.cells #[.int .i64 7, .int .i64 8] 3)))
  go_wp2_with fail
  refine hl10.out.mono ?_
  rintro e w11 ⟨a11, q11, rfl, hown11, hp11⟩
  have hs11 := hid (same_at ((Row.of_own hown11).pure ((Below.refl _ w11).alloc (Nat.le_refl _) _)) (ints_lit (w := w11) (l := [7, 8]) (by decide)) true rfl)
  have Hp11 := hid ((Hpb.out.then_ hp11).then_ ((Below.refl _ w11).alloc (Nat.le_refl _) (.cells #[.int .i64 7, .int .i64 8] 3)))
  clear hown11 hp11
  go_wp2_with fail
  refine hs11.out.mono ?_
  rintro e w12 ⟨rfl, hp12⟩
  have Hp12 := hid (Hp11.out.then_ hp12)
  clear hp12
  go_wp2
  go_ret
  exact ⟨rfl, Hp12.out⟩
end Go.Proofs.Ytofengnbedebpaa
