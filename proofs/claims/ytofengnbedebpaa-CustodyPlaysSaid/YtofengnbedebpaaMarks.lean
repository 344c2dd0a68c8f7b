/- law18's CustodyMarks. -/
import Derived.Test.YtofengnbedebpaaMarksP
namespace Go.Proofs.Ytofengnbedebpaa
open Go.RowKit Go.Maps Go.MapKept

theorem one_to3 {k : Nat} (n : Int) (w : World) (hk : n7 n = k) :
    Calls Try.prog 10 #[.int .i64 n] w fun r w' => ∃ p0 s0 p1 s1 p2 s2, r = .returned (.agg #[.slice p0 (oneB k).1.length s0, .slice p1 (oneB k).2.1.length s1, .slice p2 (oneB k).2.2.length s2]) ∧ BagAt w' (.agg #[.slice p0 (oneB k).1.length s0, .slice p1 (oneB k).2.1.length s1, .slice p2 (oneB k).2.2.length s2]) (oneB k) ∧ Pure w w' ∧ BagFrom w.heap.size (.agg #[.slice p0 (oneB k).1.length s0, .slice p1 (oneB k).2.1.length s1, .slice p2 (oneB k).2.2.length s2]) := by
  subst hk
  refine (one_any2 n w).mono ?_
  rintro r w' ⟨v, rfl, hat, hp, hf⟩
  have h := hat
  obtain ⟨v0, v1, v2, rfl, h0, h1, h2⟩ := h
  obtain ⟨p0, s0, rfl⟩ := h0.shape
  obtain ⟨p1, s1, rfl⟩ := h1.shape
  obtain ⟨p2, s2, rfl⟩ := h2.shape
  exact ⟨p0, s0, p1, s1, p2, s2, rfl, hat, hp, hf⟩

theorem bag_stays2 {n c X : Nat} {w3 : World} {T : TypeId} {y0 y1 y2 : Value} {g : Bag} (hX : X ≠ c) (hb : w3.heap[X]? = some (.cells #[y0, y1, y2] T (0, 0))) (hat : BagAt w3 (.agg #[y0, y1, y2]) g) (hc : ∀ k, (y0.rb = some k ∨ y1.rb = some k ∨ y2.rb = some k) → k ≠ c) :
    ∀ W, KC n c w3 W → W.cell? ⟨X, 0, none⟩ = some y0 ∧ W.cell? ⟨X, 1, none⟩ = some y1 ∧ W.cell? ⟨X, 2, none⟩ = some y2 ∧ BagAt W (.agg #[y0, y1, y2]) g := fun W hW => by
  have e := hW.rows X _ _ _ hX hb
  refine ⟨cell_of_block e 0, cell_of_block e 1, cell_of_block e 2, hat.kc hW (fun v0 v1 v2 ev => ?_)⟩
  obtain ⟨rfl, rfl, rfl⟩ := agg3 ev
  exact ⟨fun k hk => hc k (.inl hk), fun k hk => hc k (.inr (.inl hk)), fun k hk => hc k (.inr (.inr hk))⟩

set_option maxRecDepth 100000 in
set_option maxHeartbeats 8000000 in
theorem marks_walk (v : Value) (L : List Dot) (w : World) (hr : Dots w v L) :
    Calls Try.prog 5 #[v] w fun e w' => e = .returned (.bool true) ∧ Pure w w' := by
  obtain ⟨av, cv, rfl⟩ := hr.shape
  have hll : L.length ≤ maxLen := Row.len_le hr
  unfold maxLen at hll
  have Hr := hid hr
  clear hr
  go_enter Try.func5, Try.ntmps5
  go_wp2_with fail
  refine (awake_any w).mono ?_
  rintro e w1 ⟨rfl, hp1⟩
  have Hp1 := hid hp1
  clear hp1
  obtain ⟨n, hn⟩ : ∃ n, n = w1.heap.size := ⟨_, rfl⟩
  obtain ⟨c, hc⟩ : ∃ c, c = w1.heap.size + 2 := ⟨_, rfl⟩
  have Hnew := hid (cunew_to w1 hn hc)
  have Hn := hid (And.intro hn hc)
  clear hn hc
  go_wp2_with fail
  refine Hnew.out.mono ?_
  rintro e w2 ⟨rfl, hc2, hp2⟩
  have Hc2 := hid hc2
  have Hp2 := hid (Hp1.out.then_ hp2)
  obtain ⟨X, hX⟩ : ∃ X, X = w2.heap.size := ⟨_, rfl⟩
  have hXc : Hid (c < X ∧ w.heap.size ≤ n) := by
    obtain ⟨h1, h2⟩ := Hn.out
    obtain ⟨mb, hb, bl, h⟩ := hc2
    have := lt_of_block h.blk
    have := Hp1.out.size
    exact ⟨by omega, by omega⟩
  clear hc2 hp2
  obtain ⟨wm, hwm⟩ : ∃ wm, wm = w2.alloc (.cells #[.string ⟨#[]⟩, .string ⟨#[]⟩, .string ⟨#[]⟩, .string ⟨#[]⟩] 46) := ⟨_, rfl⟩
  have Hpm := hid (show Pure w2 wm from by rw [hwm]; exact (Below.refl _ _).alloc (Nat.le_refl _) _)
  have Hbm := hid (show wm.heap[X]? = some (.cells (mArr []) 46 (0, 0)) from by rw [hwm, hX]; exact block_alloc_new _ _)
  go_wp2
  rw [← hwm, ← hX]
  clear hwm hX
  go_loopw [6, 7, 8, 9, 10] (fun i _ _ _ _ wr => ∃ (j : Nat) (S : CuS), j ≤ L.length ∧ i = .int .i64 j ∧ MOk S ∧ Cu wr n c S ∧ wr.heap[X]? = some (.cells (mArr S) 46 (0, 0)) ∧ Pure w wr) (fun i _ _ _ _ _ => L.length - (RowKit.intOf i).toNat)
  case atStart => exact ⟨0, [], Nat.zero_le _, rfl, MOk.nil, Hc2.out.pure Hpm.out, Hbm.out, Hp2.out.then_ Hpm.out⟩
  case round =>
    obtain ⟨j, S, hj, rfl, hok, hcu, hbx, hp⟩ := hrel
    by_cases hlt : j < L.length ∧ j < 30
    · obtain ⟨lt1, lt2⟩ := hlt
      have lt1' : (j : Int) < (L.length : Int) := by omega
      have lt2' : (j : Int) < 30 := by omega
      have hjp : (0 : Int) ≤ (j : Int) := by omega
      obtain ⟨bo, oo, rfl, hbo, c0, c1⟩ := Dots.get (show Dots wr (.slice av L.length cv) L from Row.pure Hr.out hp) lt1
      have hcx : Hid (∀ W, Pure w W → W.cell? ⟨bo, oo + j * 2, none⟩ = some (.int .i64 (L.getD j (0, 0)).1) ∧ W.cell? ⟨bo, oo + j * 2 + 1, none⟩ = some (.int .i64 (L.getD j (0, 0)).2)) := fun W hW => by
        obtain ⟨b', o', e', _, x0, x1⟩ := Dots.get (show Dots W (.slice (some ⟨bo, oo, none⟩) L.length cv) L from Row.pure Hr.out hW) lt1
        cases e'
        exact ⟨x0, x1⟩
      generalize L.getD j (0, 0) = z at *
      obtain ⟨x, y⟩ := z
      dsimp only at c0 c1 hcx
      obtain ⟨q, hq⟩ : ∃ q : Nat, bits .and .i64 x 3 = (q : Int) := ⟨(bits .and .i64 x 3).toNat, by have := and3 x; omega⟩
      have hq3 : q ≤ 3 := by have := and3 x; omega
      obtain ⟨k, hk⟩ : ∃ k, n7 y = k := ⟨_, rfl⟩
      have hk7 : k ≤ 7 := by rw [← hk]; exact n7_le y
      have hky : bits .and .i64 y 7 = (k : Int) := by rw [← hk]; exact n7_eq y
      have hone := hid (one_to3 y wr hk)
      have wq : (Lit.int .i64 (q : Int)).wf = true := wf_i64 _ (by omega)
      have Hok := hid hok
      have Hcu := hid hcu
      have Hbx := hid hbx
      have Hp := hid hp
      clear hok hcu hbx hp hk hbo
      go_wp2_with fail
      refine hone.out.mono ?_
      rintro e w3 ⟨p0, s0, p1, s1, p2, s2, rfl, hat, hp3, hfr⟩
      have hks := hid (oneB_small hk7)
      generalize hL0 : (oneB k).1.length = n0 at *
      generalize hL1 : (oneB k).2.1.length = n1 at *
      generalize hL2 : (oneB k).2.2.length = n2 at *
      clear hL0 hL1 hL2
      obtain ⟨w4, hw4⟩ : ∃ w4, w4 = w3.alloc (.cells #[.slice p0 n0 s0, .slice p1 n1 s1, .slice p2 n2 s2] 31) := ⟨_, rfl⟩
      obtain ⟨X3, hX3⟩ : ∃ X3, X3 = w3.heap.size := ⟨_, rfl⟩
      have Hp34 := hid (show Pure w3 w4 from by rw [hw4]; exact (Below.refl _ _).alloc (Nat.le_refl _) _)
      have hb4 : w4.heap[X3]? = some (.cells #[.slice p0 n0 s0, .slice p1 n1 s1, .slice p2 n2 s2] 31 (0, 0)) := by rw [hw4, hX3]; exact block_alloc_new _ _
      have hcw : c < wr.heap.size := by
        obtain ⟨mb, hb, bl, h⟩ := Hcu.out
        exact lt_of_block h.blk
      have Hcw := hid (show X3 ≠ c from by have := hp3.size; omega)
      have Hst0 := hid (bag_stays2 (n := n) (c := c) Hcw.out hb4 (hat.pure Hp34.out) (fun g hg => by
        obtain ⟨g0, g1, g2⟩ := hfr _ _ _ rfl
        rcases hg with hg | hg | hg
        · have := g0 g hg; omega
        · have := g1 g hg; omega
        · have := g2 g hg; omega))
      have Hc4 := hid ((Hcu.out.pure hp3).pure Hp34.out)
      have Hp4 := hid ((Hp.out.then_ hp3).then_ Hp34.out)
      have Hbx4 := hid ((hp3.then_ Hp34.out).block _ (lt_of_block Hbx.out) |>.trans Hbx.out)
      clear hat hp3 hb4 hfr
      have hst : Hid (∀ W, KC n c w4 W → (W.cell? ⟨X3, 0, none⟩ = some (.slice p0 n0 s0) ∧ W.cell? ⟨X3, 1, none⟩ = some (.slice p1 n1 s1) ∧ W.cell? ⟨X3, 2, none⟩ = some (.slice p2 n2 s2) ∧ BagAt W (.agg #[.slice p0 n0 s0, .slice p1 n1 s1, .slice p2 n2 s2]) (oneB k)) ∧ W.heap[X]? = some (.cells (mArr S) 46 (0, 0)) ∧ Pure w W) := fun W hW =>
        ⟨Hst0.out W hW, hW.rows X _ _ _ (by have := hXc.out.1; omega) Hbx4.out, Hp4.out.kc hW hXc.out.2⟩
      obtain ⟨⟨f0, f1, f2, hat4⟩, -, -⟩ := hst.out w4 (KC.refl _ _ _)
      have hby := hid (bytes_to hat4 hk7)
      clear hat4 Hst0
      have F := hid (And.intro f0 (And.intro f1 f2))
      obtain ⟨d0, d1⟩ := hcx.out w4 Hp4.out
      have hS4 := hid (And.intro d0 d1)
      rw [hw4] at f0 f1 f2 d0 d1
      go_wp2_with fail
      rw [← hw4, ← hX3]
      clear hw4 hX3 f0 f1 f2 d0 d1
      refine hby.out.mono ?_
      rintro e w5 ⟨rfl, hp5⟩
      have Hk5 := hid (KC.pure (base := n) (c := c) hp5)
      have Hc5 := hid (Hc4.out.pure hp5)
      clear hp5
      obtain ⟨⟨f0, f1, f2, hat5⟩, hbx5, hpw5⟩ := hst.out w5 Hk5.out
      obtain ⟨d0, d1⟩ := hcx.out w5 hpw5
      have m0 : w5.cell? ⟨X, q, none⟩ = some (.string (bs (cmark S (q : Int)))) := (cell_of_block hbx5 q).trans (mArr_get S q hq3)
      have hk1 := hid (keep_to Hc5.out hat5 hk7 wq (ckeep_other Hok.out (q : Int) (mk_ne k hk7) k))
      have hok2 := hid (mNext_ok Hok.out (p := (q : Int)) (by omega) (by omega) (mk_ne k hk7) k)
      have hk2 := hid (fun W (hW : KC n c w4 W) (hC : Cu W n c (mNext S (q : Int) (mk k) k)) => keep_to hC (hst.out W hW).1.2.2.2 hk7 wq (ckeep_again Hok.out (p := (q : Int)) (by omega) (by omega) (mk_ne k hk7) k))
      rw [show (if mOther S (q : Int) (mk k) k = true then cset S (q : Int) (mk k) [] else S) = mNext S (q : Int) (mk k) k from rfl] at hk1
      have hset := hid (mArr_set S (mk k) q hq3)
      have Hget := hid (mArr_get S q hq3)
      have hnx := hid (show mNext S (q : Int) (mk k) k = if mOther S (q : Int) (mk k) k = true then cset S (q : Int) (mk k) [] else S from rfl)
      have ho1 : mOther S (q : Int) (mk k) k = (!decide (cmark S (q : Int) = mk k) && (!decide (cmark S (q : Int) = []) || !decide (k = 0))) := by unfold mOther; simp
      have e1 : ((bs (cmark S (q : Int))).toList == (bs (mk k)).toList) = decide (cmark S (q : Int) = mk k) := bs_beq _ _
      have e6 : ((bs (cmark S (q : Int))).toList = (bs (mk k)).toList) = (decide (cmark S (q : Int) = mk k) = true) := by rw [bs_list, bs_list]; simp
      have e2 : (bs (cmark S (q : Int))).toList.isEmpty = decide (cmark S (q : Int) = []) := by rw [bs_list]; cases cmark S (q : Int) <;> simp
      have e5 : ((bs (cmark S (q : Int))).toList = []) = (decide (cmark S (q : Int) = []) = true) := by rw [bs_list]; simp
      have e4 : ((k : Int) != 0) = !decide (k = 0) := by by_cases h : k = 0 <;> simp [h]
      clear hat5 hbx5 hpw5
      generalize hO : mOther S (q : Int) (mk k) k = O at *
      clear hO
      generalize decide (cmark S (q : Int) = mk k) = A at *
      generalize decide (cmark S (q : Int) = []) = B at *
      generalize decide (k = 0) = C at *
      generalize mNext S (q : Int) (mk k) k = S2 at *
      generalize hM : mk k = m at *
      clear hM
      generalize bs (cmark S (q : Int)) = CM at *
      generalize bs m = M at *
      have q0 : (0 : Int) ≤ (q : Int) := by omega
      have q4 : (q : Int) < 4 := by omega
      have Hset := hid hset.out
      have Hnx := hid hnx.out
      clear hset hnx
      cases A <;> cases B <;> cases C <;>
      · simp only [Bool.not_true, Bool.not_false, Bool.true_and, Bool.false_and, Bool.or_true, Bool.true_or, Bool.false_or, Bool.or_false] at ho1 e4
        subst ho1
        go_wp2_with fail
        refine hk1.out.mono ?_
        rintro e w6 ⟨rfl, hc6, hk6⟩
        have Hk6 := hid (Hk5.out.trans hk6)
        have Hc6 := hid hc6
        clear hc6 hk6 f0 f1 f2 d0 d1 m0
        obtain ⟨⟨f0, f1, f2, -⟩, -, -⟩ := hst.out w6 Hk6.out
        go_wp2_with fail
        refine (hk2.out w6 Hk6.out Hc6.out).mono ?_
        rintro e w7 ⟨rfl, hc7, hk7⟩
        have Hk7 := hid (Hk6.out.trans hk7)
        have Hc7 := hid hc7
        clear hc7 hk7 f0 f1 f2
        obtain ⟨-, hbx7, hpw7⟩ := hst.out w7 Hk7.out
        have m7 : w7.cell? ⟨X, q, none⟩ = some (.string CM) := (cell_of_block hbx7 q).trans Hget.out
        have f7 : w7.frozen? ⟨X, q, none⟩ = false := free_of_block hbx7 q
        have Hbx7 := hid hbx7
        have Hpw7 := hid hpw7
        have Hst7 := hid (show (w7.setCell ⟨X, q, none⟩ (.string M)).heap[X]? = some (.cells ((mArr S).setIfInBounds q (.string M)) 46 (0, 0)) ∧ Cu (w7.setCell ⟨X, q, none⟩ (.string M)) n c S2 ∧ Pure w (w7.setCell ⟨X, q, none⟩ (.string M)) from
          ⟨block_setCell hbx7 q _, Hc7.out.setOther hbx7 (by have := hXc.out.1; omega) q _, hpw7.setCell (by show w.heap.size ≤ X; have := hXc.out; have := Hn.out; omega) _⟩)
        clear hbx7 hpw7
        go_wp2
        go_roundw
        case rel =>
          first
          | exact ⟨j + 1, S2, by omega, by go_num, hok2.out, Hc7.out, by rw [Hnx.out]; exact Hbx7.out, Hpw7.out⟩
          | exact ⟨j + 1, S2, by omega, by go_num, hok2.out, Hst7.out.2.1, (by have h := Hst7.out.1; rw [Hset.out] at h; rw [Hnx.out]; exact h), Hst7.out.2.2⟩
        case measure => simp [RowKit.intOf]; omega
    · have hXn := hXc.out
      have Hok := hid hok
      have Hcu := hid hcu
      have Hbx := hid hbx
      have Hp := hid hp
      clear hok hcu hbx hp
      by_cases h1 : j < L.length
      · have h1' : (j : Int) < (L.length : Int) := by omega
        have h2' : ¬ ((j : Int) < 30) := by omega
        obtain ⟨wo, rfl⟩ : ∃ wo : World, wo = wr := ⟨_, rfl⟩
        go_wp2
        go_loopw [11, 12] (fun pv i wr => ∃ t : Nat, t ≤ 4 ∧ i = .int .i64 t ∧ wr.ownsRow wo.heap.size 3 1 pv (mParts S t).length ((mParts S t).map (Value.int .i64)) ∧ Pure wo wr) (fun _ i _ => 4 - (RowKit.intOf i).toNat)
        case atStart => exact ⟨0, by omega, rfl, World.ownsRow_nil _ _ _ _, Below.refl _ _⟩
        case round =>
          obtain ⟨t, ht, rfl, hown, hp⟩ := hrel
          by_cases hlt : t < 4
          · have t0 : (0 : Int) ≤ (t : Int) := by omega
            have t4 : (t : Int) < 4 := by omega
            have wt : (Lit.int .i64 (t : Int)).wf = true := wf_i64 _ (by omega)
            have hS : Hid (∀ W, Pure wo W → (W.cell? ⟨X, t, none⟩ = some (.string (bs (cmark S (t : Int)))) ∧ Pure wo W)) := fun W hW =>
              ⟨(cell_of_block ((hW.block _ (lt_of_block Hbx.out)).trans Hbx.out) t).trans (mArr_get S t (by omega)), hW⟩
            have hS2 : Hid (∀ W : World, (W.cell? ⟨X, t, none⟩ = some (.string (bs (cmark S (t : Int)))) ∧ Pure wo W) → Pure wo W) := fun W h => h.2
            have hmk := hid (fun W (hW : Pure wo W) => cumark_any n c S (t : Int) W (Hcu.out.pure hW) wt)
            have hst0 := hid (hS.out wr.drew (hp.then_ (Below.refl _ _).drew))
            have hstep := hid (mParts_step S t)
            have hpl := mParts_len S t
            have e2 : (bs (cmark S (t : Int))).toList.isEmpty = decide (cmark S (t : Int) = []) := by rw [bs_list]; cases cmark S (t : Int) <;> simp
            have e5 : ((bs (cmark S (t : Int))).toList = []) = (decide (cmark S (t : Int) = []) = true) := by rw [bs_list]; simp
            have hdn : decide (cmark S (t : Int) ≠ []) = !decide (cmark S (t : Int) = []) := by simp
            rw [hdn] at hstep
            clear hdn
            generalize decide (cmark S (t : Int) = []) = B at *
            generalize bs (cmark S (t : Int)) = CM at *
            generalize mParts S t = Y at *
            obtain ⟨a3, c3, rfl⟩ := own_shape_d hown
            have Hown := hid hown
            have Hpr := hid hp
            clear hown hp
            go_wp2_with fail
            go_region_held3 (fun W => W.cell? ⟨X, t, none⟩ = some (.string CM) ∧ Pure wo W)
              (first | with_reducible exact hst0.out | with_reducible exact hS.out _ (Pure.then_ (hS2.out _ (by assumption)) (by assumption)) | assumption)
              (first
                | (go_at_call 17; with_reducible refine (hmk.out _ (hS2.out _ (by assumption))).mono ?_; rintro e w31 ⟨rfl, hw31⟩; subst hw31))
            have hx := hS2.out wr.drew (by assumption)
            have HX := hid hx
            have m1 : wr.drew.cell? ⟨X, t, none⟩ = some (.string CM) := (hS.out wr.drew hx).1
            have Hown' := hid (own_pure Hown.out (show Pure wr wr.drew from (Below.refl _ _).drew))
            clear hx hst0
            cases B with
            | true =>
              go_wp2
              go_roundw
              case rel => exact ⟨t + 1, by omega, by go_num, by rw [hstep.out]; exact Hown'.out, HX.out⟩
              case measure => simp [RowKit.intOf]; omega
            | false =>
              have b4 : wo.heap.size ≤ (wr.drew.alloc (.cells #[.int .i64 (t : Int)] 3)).heap.size := by have := HX.out.size; simp at this ⊢; omega
              go_wp2_with (at_builtin; refine wpList_append_ints1 rfl _ _ rfl wo.heap.size _ Y Y.length rfl (Hown'.out.alloc _) _ [(t : Int)] 1 rfl (ints_lit1 wr.drew (t : Int)) (by omega) b4 ?_)
              intro v3 w3 hown3 hg3
              have Hown3 := hid hown3
              have hpn := hid ((HX.out.alloc HX.out.size _).grown hg3 b4 (fun k hk => (Hown'.out.lt k hk).1))
              clear hown3 hg3
              go_wp2
              go_roundw
              case rel => exact ⟨t + 1, by omega, by go_num, by rw [hstep.out]; simpa using Hown3.out, hpn.out⟩
              case measure => simp [RowKit.intOf]; omega
          · have ht4 : t = 4 := by omega
            subst ht4
            have hI := hid (Row.of_own hown)
            have hpt := hid (cuparts_any n c S wr (Hcu.out.pure hp) (by have := Hok.out.len; omega))
            rw [srt_parts Hok.out] at hpt
            obtain ⟨a3, c3, rfl⟩ := own_shape_d hown
            have Hpr := hid hp
            clear hown hp
            generalize mParts S 4 = Y at *
            go_wp2_with fail
            refine hpt.out.mono ?_
            rintro e w40 ⟨v40, rfl, hown40, hp40⟩
            have hsm := hid (same_at (r := true) (show Ints w40 v40 Y from Row.of_own hown40) (show Ints w40 (.slice a3 Y.length c3) Y from Row.pure hI.out hp40) (by simp))
            obtain ⟨a4, c4, rfl⟩ := own_shape_d hown40
            have Hp40 := hid (Hp.out.then_ (Hpr.out.then_ hp40))
            clear hown40 hp40
            go_wp2_with fail
            refine hsm.out.mono ?_
            rintro e w41 ⟨rfl, hp41⟩
            have Hp41 := hid (Hp40.out.then_ hp41)
            clear hp41
            go_wp2
            go_ret
            exact ⟨rfl, Hp41.out⟩
      · have h1' : ¬ (j : Int) < (L.length : Int) := by omega
        obtain ⟨wo, rfl⟩ : ∃ wo : World, wo = wr := ⟨_, rfl⟩
        go_wp2
        go_loopw [11, 12] (fun pv i wr => ∃ t : Nat, t ≤ 4 ∧ i = .int .i64 t ∧ wr.ownsRow wo.heap.size 3 1 pv (mParts S t).length ((mParts S t).map (Value.int .i64)) ∧ Pure wo wr) (fun _ i _ => 4 - (RowKit.intOf i).toNat)
        case atStart => exact ⟨0, by omega, rfl, World.ownsRow_nil _ _ _ _, Below.refl _ _⟩
        case round =>
          obtain ⟨t, ht, rfl, hown, hp⟩ := hrel
          by_cases hlt : t < 4
          · have t0 : (0 : Int) ≤ (t : Int) := by omega
            have t4 : (t : Int) < 4 := by omega
            have wt : (Lit.int .i64 (t : Int)).wf = true := wf_i64 _ (by omega)
            have hS : Hid (∀ W, Pure wo W → (W.cell? ⟨X, t, none⟩ = some (.string (bs (cmark S (t : Int)))) ∧ Pure wo W)) := fun W hW =>
              ⟨(cell_of_block ((hW.block _ (lt_of_block Hbx.out)).trans Hbx.out) t).trans (mArr_get S t (by omega)), hW⟩
            have hS2 : Hid (∀ W : World, (W.cell? ⟨X, t, none⟩ = some (.string (bs (cmark S (t : Int)))) ∧ Pure wo W) → Pure wo W) := fun W h => h.2
            have hmk := hid (fun W (hW : Pure wo W) => cumark_any n c S (t : Int) W (Hcu.out.pure hW) wt)
            have hst0 := hid (hS.out wr.drew (hp.then_ (Below.refl _ _).drew))
            have hstep := hid (mParts_step S t)
            have hpl := mParts_len S t
            have e2 : (bs (cmark S (t : Int))).toList.isEmpty = decide (cmark S (t : Int) = []) := by rw [bs_list]; cases cmark S (t : Int) <;> simp
            have e5 : ((bs (cmark S (t : Int))).toList = []) = (decide (cmark S (t : Int) = []) = true) := by rw [bs_list]; simp
            have hdn : decide (cmark S (t : Int) ≠ []) = !decide (cmark S (t : Int) = []) := by simp
            rw [hdn] at hstep
            clear hdn
            generalize decide (cmark S (t : Int) = []) = B at *
            generalize bs (cmark S (t : Int)) = CM at *
            generalize mParts S t = Y at *
            obtain ⟨a3, c3, rfl⟩ := own_shape_d hown
            have Hown := hid hown
            have Hpr := hid hp
            clear hown hp
            go_wp2_with fail
            go_region_held3 (fun W => W.cell? ⟨X, t, none⟩ = some (.string CM) ∧ Pure wo W)
              (first | with_reducible exact hst0.out | with_reducible exact hS.out _ (Pure.then_ (hS2.out _ (by assumption)) (by assumption)) | assumption)
              (first
                | (go_at_call 17; with_reducible refine (hmk.out _ (hS2.out _ (by assumption))).mono ?_; rintro e w31 ⟨rfl, hw31⟩; subst hw31))
            have hx := hS2.out wr.drew (by assumption)
            have HX := hid hx
            have m1 : wr.drew.cell? ⟨X, t, none⟩ = some (.string CM) := (hS.out wr.drew hx).1
            have Hown' := hid (own_pure Hown.out (show Pure wr wr.drew from (Below.refl _ _).drew))
            clear hx hst0
            cases B with
            | true =>
              go_wp2
              go_roundw
              case rel => exact ⟨t + 1, by omega, by go_num, by rw [hstep.out]; exact Hown'.out, HX.out⟩
              case measure => simp [RowKit.intOf]; omega
            | false =>
              have b4 : wo.heap.size ≤ (wr.drew.alloc (.cells #[.int .i64 (t : Int)] 3)).heap.size := by have := HX.out.size; simp at this ⊢; omega
              go_wp2_with (at_builtin; refine wpList_append_ints1 rfl _ _ rfl wo.heap.size _ Y Y.length rfl (Hown'.out.alloc _) _ [(t : Int)] 1 rfl (ints_lit1 wr.drew (t : Int)) (by omega) b4 ?_)
              intro v3 w3 hown3 hg3
              have Hown3 := hid hown3
              have hpn := hid ((HX.out.alloc HX.out.size _).grown hg3 b4 (fun k hk => (Hown'.out.lt k hk).1))
              clear hown3 hg3
              go_wp2
              go_roundw
              case rel => exact ⟨t + 1, by omega, by go_num, by rw [hstep.out]; simpa using Hown3.out, hpn.out⟩
              case measure => simp [RowKit.intOf]; omega
          · have ht4 : t = 4 := by omega
            subst ht4
            have hI := hid (Row.of_own hown)
            have hpt := hid (cuparts_any n c S wr (Hcu.out.pure hp) (by have := Hok.out.len; omega))
            rw [srt_parts Hok.out] at hpt
            obtain ⟨a3, c3, rfl⟩ := own_shape_d hown
            have Hpr := hid hp
            clear hown hp
            generalize mParts S 4 = Y at *
            go_wp2_with fail
            refine hpt.out.mono ?_
            rintro e w40 ⟨v40, rfl, hown40, hp40⟩
            have hsm := hid (same_at (r := true) (show Ints w40 v40 Y from Row.of_own hown40) (show Ints w40 (.slice a3 Y.length c3) Y from Row.pure hI.out hp40) (by simp))
            obtain ⟨a4, c4, rfl⟩ := own_shape_d hown40
            have Hp40 := hid (Hp.out.then_ (Hpr.out.then_ hp40))
            clear hown40 hp40
            go_wp2_with fail
            refine hsm.out.mono ?_
            rintro e w41 ⟨rfl, hp41⟩
            have Hp41 := hid (Hp40.out.then_ hp41)
            clear hp41
            go_wp2
            go_ret
            exact ⟨rfl, Hp41.out⟩
end Go.Proofs.Ytofengnbedebpaa
