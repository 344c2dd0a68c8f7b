import Derived.Test.YtffafdkjgllpcaaCountsLaw
import Derived.Test.YtffafdkjgllpcaaStaysC
namespace Go.Proofs.Ytffafdkjgllpcaa
open Go.RowKit Go.Maps
/-! ClaimCounts. -/
structure BoolsAt (w : World) (a : Option Addr) (n cap : Nat) (l : List Bool) : Prop where
  len : l.length = n
  le : n ≤ cap
  cap_le : cap ≤ maxLen
  cell : ∀ k, k < n → ∃ b off, a = some ⟨b, off, none⟩ ∧ b < w.heap.size ∧ w.cell? ⟨b, off + k, none⟩ = some (.bool (l.getD k false))
theorem BoolsAt.kept {w w' : World} {a : Option Addr} {n cap : Nat} {l : List Bool} {S : Nat → Prop} (h : BoolsAt w a n cap l) (hp : Kept S w w') (hS : ∀ k, k < w.heap.size → ¬ S k) : BoolsAt w' a n cap l :=
  ⟨h.len, h.le, h.cap_le, fun k hk => by
    obtain ⟨b, off, e, hb, c0⟩ := h.cell k hk
    exact ⟨b, off, e, Nat.lt_of_lt_of_le hb hp.size, (hp.cell (by exact hb) (hS b hb)).trans c0⟩⟩

theorem ints_get16 {w : World} {a : Option Addr} {n cap : Nat} {l : List Int} (h : Ints w (.slice a n cap) l) {k : Nat} (hk : k < l.length) : ∃ b off, a = some ⟨b, off, none⟩ ∧ w.cell? ⟨b, off + k, none⟩ = some (.int .i64 (l.getD k 0)) := by
  obtain ⟨_, _, _, hc⟩ := h.cell
  rcases hc with ⟨h, _⟩ | ⟨bl, off, h, _, hc⟩
  · rw [h] at hk; exact absurd hk (Nat.not_lt_zero _)
  · exact ⟨bl, off, h, hc k hk⟩

set_option maxHeartbeats 1000000 in
theorem yes16_any (b bm : Nat) (vo : Value) (c : CM) (w : World) (h : ClaimAt w b bm vo c) (hl : c.owners.length ≤ 1000000) (hwf : AllWf c.owners) :
    Calls Try.prog 12 #[.pointer (some ⟨b, 0, none⟩)] w fun e w' => ∃ v', e = .returned v' ∧ Ints w' v' (srt (saidL c.said true c.owners)) ∧ Pure w w' := by
  have hm := hid (made_yes b bm vo c w h)
  have hw := hid (who_any b bm vo c true w h hl hwf)
  clear h
  go_enter Try.func12, Try.ntmps12
  go_wp2_with fail
  refine hm.out.mono ?_
  rintro e w' ⟨rfl, rfl⟩
  go_wp2_with fail
  refine hw.out.mono ?_
  rintro e w1 ⟨v1, rfl, hown, hp⟩
  have Hr := hid (Row.of_own hown)
  obtain ⟨a1, c1, rfl⟩ := (show Ints w1 v1 _ from Row.of_own hown).shape
  have Hp := hid hp
  clear hown hp
  go_wp2
  go_ret
  exact ⟨_, rfl, Hr.out, Hp.out⟩
theorem yes16_len (b bm : Nat) (vo : Value) (c : CM) (w : World) (h : ClaimAt w b bm vo c) (hl : c.owners.length ≤ 1000000) (hwf : AllWf c.owners) (n : Nat) (hn : (saidL c.said true c.owners).length = n) :
    Calls Try.prog 12 #[.pointer (some ⟨b, 0, none⟩)] w fun e w' => (∃ a k, e = .returned (.slice a n k)) ∧ Pure w w' := by
  refine (yes16_any b bm vo c w h hl hwf).mono ?_
  rintro e w' ⟨v', rfl, hi, hp⟩
  obtain ⟨a, k, rfl⟩ := hi.shape
  exact ⟨⟨a, k, by rw [srt_len, hn]⟩, hp⟩
theorem beside_want {K : Nat} {c : CM} {S : List Bool} {x y : Nat} (h : Beside K c S x y) :
    ((K : Int) < 2 * (x : Int) ∧ c.state = 1) ∨ (¬ (K : Int) < 2 * (x : Int) ∧ 2 * ((K : Int) - (y : Int)) ≤ (K : Int) ∧ c.state = 2) ∨ (¬ (K : Int) < 2 * (x : Int) ∧ ¬ 2 * ((K : Int) - (y : Int)) ≤ (K : Int) ∧ c.state = 0) := by
  rw [h.state, want_go K x y (beside_le h).2]
  by_cases h1 : (K : Int) < 2 * (x : Int)
  · rw [if_pos h1]; exact .inl ⟨h1, rfl⟩
  · rw [if_neg h1]
    by_cases h2 : 2 * ((K : Int) - (y : Int)) ≤ (K : Int)
    · rw [if_pos h2]; exact .inr (.inl ⟨h1, h2, rfl⟩)
    · rw [if_neg h2]; exact .inr (.inr ⟨h1, h2, rfl⟩)
theorem node_of (z : Int) (j : Nat) (h1 : 1 ≤ j) (h2 : j ≤ 9) : ∃ nd : Nat, nd < j ∧ (wrap64 (z.tmod (j : Int) + (j : Int))).tmod (j : Int) = (nd : Int) := by
  have x1 : -(j : Int) < z.tmod j := by have := Int.lt_tmod_of_pos z (show (0 : Int) < (j : Int) by omega); omega
  have x2 : z.tmod j < j := Int.tmod_lt_of_pos z (by omega)
  have e : wrap64 (z.tmod (j : Int) + (j : Int)) = z.tmod (j : Int) + (j : Int) := by unfold wrap64; omega
  rw [e]
  have y2 := Int.tmod_lt_of_pos (z.tmod j + j) (show (0 : Int) < (j : Int) by omega)
  have y1 := Int.tmod_nonneg (j : Int) (show 0 ≤ z.tmod j + j by omega)
  exact ⟨((z.tmod j + j).tmod j).toNat, by omega, by omega⟩
theorem said_cell {w : World} {g : Nat} {S : List Bool} {T : TypeId} (h : w.heap[g]? = some (.cells (S.map Value.bool).toArray T (0, 0))) {i : Nat} (hi : i < S.length) : w.cell? ⟨g, i, none⟩ = some (.bool (S.getD i false)) := by
  rw [cell_of_block h]; simp [List.getD, hi]

set_option maxRecDepth 8000 in
set_option maxHeartbeats 2000000 in
theorem counts_walk (n : Int) (a : Option Addr) (len cap : Nat) (l : List Bool) (v2 : Value) (o : List Int) (w : World) (hv : BoolsAt w a len cap l) (ho : Ints w v2 o) (hwo : AllWf o) :
    Calls Try.prog 4 #[.int .i64 n, .slice a len cap, v2] w fun e w' => e = .returned (.bool true) ∧ Pure w w' := by
  have ha := hid (awake_any w)
  have r1 : -9 < n.tmod 9 := by have := Int.lt_tmod_of_pos n (show (0 : Int) < 9 by decide); omega
  have r2 : n.tmod 9 < 9 := Int.tmod_lt_of_pos n (by decide)
  obtain ⟨K, hK⟩ : ∃ K : Nat, 1 + n.tmod 9 % 9 = (K : Int) := ⟨(1 + n.tmod 9 % 9).toNat, by omega⟩
  have hK1 : 1 ≤ K := by omega
  have hK2 : K ≤ 9 := by omega
  have hcap := hv.cap_le
  have hle := hv.le
  unfold maxLen at hcap
  have HV := hid hv
  have HO := hid ho
  obtain ⟨ao, co, rfl⟩ := ho.shape
  clear hv ho
  go_enter Try.func4, Try.ntmps4
  go_wp2_with fail
  refine ha.out.mono ?_
  rintro e w1 ⟨rfl, hp1⟩
  go_wp2_with fail
  rw [show (n.tmod 9 + 9) % 9 = n.tmod 9 % 9 by omega]
  clear hK r1 r2
  obtain ⟨i0, hi, hz0, hz1, hz2⟩ := info_parts infoInt
  go_loopw [9, 10] (fun v i wr => ∃ j : Nat, j ≤ K ∧ i = .int .i64 j ∧ wr.ownsRow w.heap.size 3 1 v (from_ 0 j).length ((from_ 0 j).map (Value.int .i64)) ∧ Pure w wr) (fun _ i _ => K - (intOf i).toNat)
  case atStart => exact ⟨0, Nat.zero_le _, rfl, World.ownsRow_nil _ _ _ _, hp1⟩
  case round =>
    obtain ⟨j, hj, rfl, hown, hp⟩ := hrel
    by_cases hlt : j < K
    · have hfl : (from_ 0 j).length ≤ 9 := by rw [from_len]; omega
      go_wp2_with (at_builtin; refine wpList_append_own _ rfl _ _ 22 rfl w.heap.size 3 i0 (.int .i64 0) 1 8 Try.underlying22 hi hz0 hz1 hz2 rfl (by decide) _ _ _ rfl (hown.alloc _) ⟨wr.heap.size, 0, none⟩ 1 1 [.int .i64 (j : Int)] rfl rfl hnews_one ?c2 ?c3 ?c4 ?c5 ?_)
      case c2 => intro u hu; simp at hu; subst hu; rfl
      case c3 => unfold maxLen; omega
      case c4 => omega
      case c5 => have := hp.size; simp; omega
      intro v2 w2 hown2 hg2 _
      go_wp2
      go_roundw
      case rel => exact ⟨j + 1, by omega, by go_num, by rw [from_succ, Int.zero_add]; exact ownsRow_snoc hown2, (hp.alloc hp.size _).grown hg2 (by have := hp.size; simp; omega) (fun k hk => (hown.lt k hk).1)⟩
      case measure => simp [intOf]; omega
    · obtain rfl : j = K := by omega
      obtain ⟨wo, rfl⟩ : ∃ wo : World, wo = wr := ⟨_, rfl⟩
      have hwf := from_wf 0 j (by omega) (by omega) (by omega)
      obtain ⟨a2, cap2, rfl⟩ := (Row.of_own hown).shape
      have hI : Ints wo (.slice a2 j cap2) (from_ 0 j) := by
        have h := Row.of_own hown
        rw [from_len] at h
        unfold Ints
        rw [from_len]; exact h
      have hnew := hid (new_ok 1 1 1 0 10 1 _ (from_ 0 j) wo hI (by rw [from_len]; omega) hwf (from_ok0 j hK1 (by omega)))
      rw [from_len]
      have Hp := hid hp
      have Hwf := hid hwf
      clear hI hown hp
      go_wp2_with fail
      refine hnew.out.mono ?_
      rintro e w2 ⟨b, bm, vo, rfl, hA, hb, hbm, hvo, hp2⟩
      have HP := hid (Hp.out.then_ hp2)
      have hszw : w.heap.size ≤ wo.heap.size := Hp.out.size
      have hsz2 : wo.heap.size ≤ w2.heap.size := hp2.size
      obtain ⟨W, hW⟩ : ∃ W, W = w2.alloc (.cells ((List.replicate 9 false).map Value.bool).toArray 32) := ⟨_, rfl⟩
      have hWp : Pure w2 W := by rw [hW]; exact (Below.refl _ _).alloc (Nat.le_refl _) _
      have HA := hid (hA.pure hWp)
      have hbw := lt_of_block hA.blk
      have hbmw := hA.map.lt
      have hvoW := hid (show ∀ k, vo.rb = some k → k < w2.heap.size from Row.lt hA.own)
      have HB := hid (show W.heap[w2.heap.size]? = some (.cells ((List.replicate 9 false).map Value.bool).toArray 32 (0, 0)) by rw [hW]; exact block_alloc_new _ _)
      have HPW := hid (HP.out.then_ hWp)
      have HVW := hid (HV.out.kept (Pure.kept (S := fun _ => False) HPW.out) (fun _ _ h => h))
      have HOW := hid (show Ints W _ o from HO.out.pure HPW.out)
      have hOlt := hid (Row.lt HO.out)
      have hWe : w2.alloc (.cells #[.bool false, .bool false, .bool false, .bool false, .bool false, .bool false, .bool false, .bool false, .bool false] 32) = W := hW.symm
      have hWe' := hid hWe
      have hbesid := hid (show Beside j (newCM 1 1 1 (from_ 0 j) 0 10 1) (List.replicate 9 false) 0 0 from beside_start _ (from_dd 0 j) rfl rfl hK1 hK2)
      have fin := hid (fun X (hX : Kept (fun k => k = b ∨ k = bm ∨ k = w2.heap.size) W X) => HPW.out.kept_then hX (fun k hk => by omega))
      have hOk := hid (fun X (hX : Kept (fun k => k = b ∨ k = bm ∨ k = w2.heap.size) W X) => (show Ints X (.slice ao o.length co) o from Row.kept HOW.out hX (fun k hk e => by have := hOlt.out k hk; omega)))
      have hwsz : w.heap.size ≤ W.heap.size := HPW.out.size
      clear hA hp2 hWp hW hWe
      go_wp2_with fail
      rw [hWe'.out]
      go_loopw [13, 14, 15] (fun ca cb i wr => ∃ (k : Nat) (c : CM) (S : List Bool) (x y : Nat), k ≤ o.length ∧ i = .int .i64 k ∧ ca = .int .i64 x ∧ cb = .int .i64 y ∧ ClaimAt wr b bm vo c ∧ Beside j c S x y ∧ wr.heap[w2.heap.size]? = some (.cells (S.map Value.bool).toArray 32 (0, 0)) ∧ Kept (fun k => k = b ∨ k = bm ∨ k = w2.heap.size) W wr) (fun _ _ i _ => o.length - (intOf i).toNat)
      case atStart => exact ⟨0, _, _, 0, 0, Nat.zero_le _, rfl, rfl, rfl, HA.out, hbesid.out, HB.out, Kept.refl _ _⟩
      case round =>
        obtain ⟨k, c, S, x, y, hk, rfl, rfl, rfl, hC, hS, hbS, hK⟩ := hrel
        by_cases hlt : k < o.length ∧ k < 20
        · obtain ⟨hlt1, hlt2⟩ := hlt
          have hl1 : (k : Int) < (o.length : Int) := by omega
          have hl2 : (k : Int) < 20 := by omega
          obtain ⟨bl, off, rfl, hc⟩ := ints_get16 (hOk.out wr hK) hlt1
          generalize o.getD k 0 = z at *
          have hj0 : (j : Int) ≠ 0 := by omega
          obtain ⟨nd, hnd, hnode⟩ := node_of z j hK1 hK2
          have hsl := hS.slen
          have hle2 := beside_le hS
          have hcnt := beside_counts hS hnd
          have hsd := said_cell hbS (show nd < S.length by omega)
          have hyv : ∃ Y : Bool, (nd < len → ∃ by_ oy, a = some ⟨by_, oy, none⟩ ∧ by_ < w.heap.size ∧ wr.cell? ⟨by_, oy + nd, none⟩ = some (.bool Y)) ∧ (¬ nd < len → Y = false) := by
            by_cases hh : nd < len
            · obtain ⟨b1, o1, e1, e2, e3⟩ := HVW.out.cell nd hh
              obtain ⟨b1', o1', e1', e2', _⟩ := HV.out.cell nd hh
              rw [e1] at e1'; cases e1'
              exact ⟨l.getD nd false, fun _ => ⟨b1, o1, e1, e2', (hK.cell (p := ⟨b1, o1 + nd, none⟩) e2 (by show ¬ (b1 = b ∨ b1 = bm ∨ b1 = w2.heap.size); omega)).trans e3⟩, fun h => absurd hh h⟩
            · exact ⟨false, fun h => absurd h hh, fun _ => rfl⟩
          obtain ⟨Y, hY1, hY2⟩ := hyv
          have hl9 : c.owners.length ≤ 1000000 := by rw [hS.owners, from_len]; omega
          have hans := answer_any b bm vo c (nd : Int) Y wr hC (wf_i64 _ (by omega)) hl9 (by rw [hS.owners]; exact hwf)
          have hst := hid (state_yes b bm vo c wr hC)
          have hol : (c.answer (nd : Int) Y).owners = from_ 0 j := (answer_owners c _ Y).trans hS.owners
          have hj9 : (nd : Int) < (j : Int) := by omega
          have hn9 : (nd : Int) < 9 := by omega
          have HbS := hid hbS
          have Hk := hid hK
          have Hnode := hnode
          by_cases h1 : c.state = 0 ∧ S.getD nd false = false
          · have hc1 : c.counts (nd : Int) = true := by rw [hcnt, h1.1, h1.2]; rfl
            have hS2 := beside_step hS hnd (by omega) Y hc1
            rw [hc1] at hans
            have h0 : (c.state == 0) = true := by simp [h1.1]
            rw [h1.2] at hsd
            have Hans := hid hans
            have Hol := hid hol
            have hvw := hid (show ∀ k, vo.rb = some k → k < w2.heap.size from hvoW.out)
            generalize c.answer (nd : Int) Y = c2 at *
            generalize c.state = st at *
            clear hC hbS hK hans hol hcnt hc1 h1 hl9 hsl hS
            cases Y with
            | true =>
              have hS2' : Beside j c2 (S.set nd true) (x + 1) y := by simpa using hS2
              have hw := beside_want hS2'
              have HS2 := hid hS2'
              clear hS2 hS2'
              have e1 : ((x + 1 : Nat) : Int) = (x : Int) + 1 := by omega
              rw [e1] at hw
              obtain ⟨hnl, by_, oy, rfl, _, hyc⟩ : nd < len ∧ ∃ by_ oy, a = some ⟨by_, oy, none⟩ ∧ by_ < w.heap.size ∧ wr.cell? ⟨by_, oy + nd, none⟩ = some (.bool true) := by
                by_cases hnl : nd < len
                · exact ⟨hnl, hY1 hnl⟩
                · exact absurd (hY2 hnl) (by simp)
              have hnl' : (nd : Int) < (len : Int) := by omega
              clear hY1 hY2
              rcases hw with ⟨q1, q3⟩ | ⟨q1, q2, q3⟩ | ⟨q1, q2, q3⟩ <;>
              · go_wp2_with fail
                refine hst.out.mono ?_
                rintro e w' ⟨rfl, rfl⟩
                go_wp2_with fail
                refine Hans.out.mono ?_
                rintro e w5 ⟨rfl, hC5, hk5⟩
                have q5 := (hk5.cell (p := ⟨w2.heap.size, nd, none⟩) (lt_of_block HbS.out) (by show ¬ (w2.heap.size = b ∨ w2.heap.size = bm); omega)).trans hsd
                have hb5 := (hk5.block w2.heap.size (lt_of_block HbS.out) (by show ¬ (w2.heap.size = b ∨ w2.heap.size = bm); omega)).trans HbS.out
                have f5 : w5.frozen? ⟨w2.heap.size, nd, none⟩ = false := free_of_block hb5 nd
                have hk6 := (Hk.out.trans (hk5.mono (T := fun k => k = b ∨ k = bm ∨ k = w2.heap.size) (fun _ _ h => by omega))).setCell (p := ⟨w2.heap.size, nd, none⟩) (fun _ => .inr (.inr rfl)) (.bool true)
                have hC6 : ClaimAt (w5.setCell ⟨w2.heap.size, nd, none⟩ (.bool true)) b bm vo c2 := hC5.kept (S := fun k => k = w2.heap.size) ((Kept.refl (fun k => k = w2.heap.size) w5).setCell (p := ⟨w2.heap.size, nd, none⟩) (fun _ => rfl) _) (by omega) (by omega) (fun k hk => by have := hvw.out k hk; omega)
                have hb6 : (w5.setCell ⟨w2.heap.size, nd, none⟩ (.bool true)).heap[w2.heap.size]? = some (.cells ((S.set nd true).map Value.bool).toArray 32 (0, 0)) := by
                  rw [block_setCell hb5 nd (.bool true)]; simp [List.map_set]
                have HbS6 := hid hb6
                have HC6 := hid hC6
                have Hk6 := hid hk6
                have hs6 := hid (state_at b bm vo _ _ hC6 _ q3)
                have hy6 := hid (yes16_len b bm vo _ _ hC6 (by rw [Hol.out, from_len]; omega) (by rw [Hol.out]; exact hwf) _ HS2.out.yes.symm)
                clear hC5 hk5 q3 hb5 hC6 hb6 hk6
                go_wp2_with fail
                refine hs6.out.mono ?_
                rintro e w' ⟨rfl, rfl⟩
                go_wp2_with fail
                refine hy6.out.mono ?_
                rintro e w7 ⟨⟨a7, c7, rfl⟩, hp7⟩
                have Hp7 := hid hp7
                clear hp7 q5
                go_wp2
                go_roundw
                case rel => exact ⟨k + 1, _, _, _, _, by omega, by go_num, by go_num, by go_num, HC6.out.pure Hp7.out, HS2.out, (Hp7.out.block _ (lt_of_block HbS6.out)).trans HbS6.out, Hk6.out.trans (Pure.kept Hp7.out)⟩
                case measure => simp [intOf]; omega
            | false =>
              have hS2' : Beside j c2 (S.set nd true) x (y + 1) := by simpa using hS2
              have hw := beside_want hS2'
              have HS2 := hid hS2'
              clear hS2 hS2'
              have e1 : ((y + 1 : Nat) : Int) = (y : Int) + 1 := by omega
              rw [e1] at hw
              by_cases hnl : nd < len
              · obtain ⟨by_, oy, rfl, _, hyc⟩ := hY1 hnl
                have hnl' : (nd : Int) < (len : Int) := by omega
                clear hY1 hY2
                rcases hw with ⟨q1, q3⟩ | ⟨q1, q2, q3⟩ | ⟨q1, q2, q3⟩ <;>
                · go_wp2_with fail
                  refine hst.out.mono ?_
                  rintro e w' ⟨rfl, rfl⟩
                  go_wp2_with fail
                  refine Hans.out.mono ?_
                  rintro e w5 ⟨rfl, hC5, hk5⟩
                  have q5 := (hk5.cell (p := ⟨w2.heap.size, nd, none⟩) (lt_of_block HbS.out) (by show ¬ (w2.heap.size = b ∨ w2.heap.size = bm); omega)).trans hsd
                  have hb5 := (hk5.block w2.heap.size (lt_of_block HbS.out) (by show ¬ (w2.heap.size = b ∨ w2.heap.size = bm); omega)).trans HbS.out
                  have f5 : w5.frozen? ⟨w2.heap.size, nd, none⟩ = false := free_of_block hb5 nd
                  have hk6 := (Hk.out.trans (hk5.mono (T := fun k => k = b ∨ k = bm ∨ k = w2.heap.size) (fun _ _ h => by omega))).setCell (p := ⟨w2.heap.size, nd, none⟩) (fun _ => .inr (.inr rfl)) (.bool true)
                  have hC6 : ClaimAt (w5.setCell ⟨w2.heap.size, nd, none⟩ (.bool true)) b bm vo c2 := hC5.kept (S := fun k => k = w2.heap.size) ((Kept.refl (fun k => k = w2.heap.size) w5).setCell (p := ⟨w2.heap.size, nd, none⟩) (fun _ => rfl) _) (by omega) (by omega) (fun k hk => by have := hvw.out k hk; omega)
                  have hb6 : (w5.setCell ⟨w2.heap.size, nd, none⟩ (.bool true)).heap[w2.heap.size]? = some (.cells ((S.set nd true).map Value.bool).toArray 32 (0, 0)) := by
                    rw [block_setCell hb5 nd (.bool true)]; simp [List.map_set]
                  have HbS6 := hid hb6
                  have HC6 := hid hC6
                  have Hk6 := hid hk6
                  have hs6 := hid (state_at b bm vo _ _ hC6 _ q3)
                  have hy6 := hid (yes16_len b bm vo _ _ hC6 (by rw [Hol.out, from_len]; omega) (by rw [Hol.out]; exact hwf) _ HS2.out.yes.symm)
                  clear hC5 hk5 q3 hb5 hC6 hb6 hk6
                  go_wp2_with fail
                  refine hs6.out.mono ?_
                  rintro e w' ⟨rfl, rfl⟩
                  go_wp2_with fail
                  refine hy6.out.mono ?_
                  rintro e w7 ⟨⟨a7, c7, rfl⟩, hp7⟩
                  have Hp7 := hid hp7
                  clear hp7 q5
                  go_wp2
                  go_roundw
                  case rel => exact ⟨k + 1, _, _, _, _, by omega, by go_num, by go_num, by go_num, HC6.out.pure Hp7.out, HS2.out, (Hp7.out.block _ (lt_of_block HbS6.out)).trans HbS6.out, Hk6.out.trans (Pure.kept Hp7.out)⟩
                  case measure => simp [intOf]; omega
              · have hnl' : ¬ (nd : Int) < (len : Int) := by omega
                clear hY1 hY2
                rcases hw with ⟨q1, q3⟩ | ⟨q1, q2, q3⟩ | ⟨q1, q2, q3⟩ <;>
                · go_wp2_with fail
                  refine hst.out.mono ?_
                  rintro e w' ⟨rfl, rfl⟩
                  go_wp2_with fail
                  refine Hans.out.mono ?_
                  rintro e w5 ⟨rfl, hC5, hk5⟩
                  have q5 := (hk5.cell (p := ⟨w2.heap.size, nd, none⟩) (lt_of_block HbS.out) (by show ¬ (w2.heap.size = b ∨ w2.heap.size = bm); omega)).trans hsd
                  have hb5 := (hk5.block w2.heap.size (lt_of_block HbS.out) (by show ¬ (w2.heap.size = b ∨ w2.heap.size = bm); omega)).trans HbS.out
                  have f5 : w5.frozen? ⟨w2.heap.size, nd, none⟩ = false := free_of_block hb5 nd
                  have hk6 := (Hk.out.trans (hk5.mono (T := fun k => k = b ∨ k = bm ∨ k = w2.heap.size) (fun _ _ h => by omega))).setCell (p := ⟨w2.heap.size, nd, none⟩) (fun _ => .inr (.inr rfl)) (.bool true)
                  have hC6 : ClaimAt (w5.setCell ⟨w2.heap.size, nd, none⟩ (.bool true)) b bm vo c2 := hC5.kept (S := fun k => k = w2.heap.size) ((Kept.refl (fun k => k = w2.heap.size) w5).setCell (p := ⟨w2.heap.size, nd, none⟩) (fun _ => rfl) _) (by omega) (by omega) (fun k hk => by have := hvw.out k hk; omega)
                  have hb6 : (w5.setCell ⟨w2.heap.size, nd, none⟩ (.bool true)).heap[w2.heap.size]? = some (.cells ((S.set nd true).map Value.bool).toArray 32 (0, 0)) := by
                    rw [block_setCell hb5 nd (.bool true)]; simp [List.map_set]
                  have HbS6 := hid hb6
                  have HC6 := hid hC6
                  have Hk6 := hid hk6
                  have hs6 := hid (state_at b bm vo _ _ hC6 _ q3)
                  have hy6 := hid (yes16_len b bm vo _ _ hC6 (by rw [Hol.out, from_len]; omega) (by rw [Hol.out]; exact hwf) _ HS2.out.yes.symm)
                  clear hC5 hk5 q3 hb5 hC6 hb6 hk6
                  go_wp2_with fail
                  refine hs6.out.mono ?_
                  rintro e w' ⟨rfl, rfl⟩
                  go_wp2_with fail
                  refine hy6.out.mono ?_
                  rintro e w7 ⟨⟨a7, c7, rfl⟩, hp7⟩
                  have Hp7 := hid hp7
                  clear hp7 q5
                  go_wp2
                  go_roundw
                  case rel => exact ⟨k + 1, _, _, _, _, by omega, by go_num, by go_num, by go_num, HC6.out.pure Hp7.out, HS2.out, (Hp7.out.block _ (lt_of_block HbS6.out)).trans HbS6.out, Hk6.out.trans (Pure.kept Hp7.out)⟩
                  case measure => simp [intOf]; omega
          · have hc1 : c.counts (nd : Int) = false := by
              rw [hcnt]
              cases hq : S.getD nd false
              · have : ¬ c.state = 0 := fun e => h1 ⟨e, hq⟩
                simp [this]
              · simp
            have hS2 := beside_same hS Y hc1
            rw [hc1] at hans
            have hw := beside_want hS2
            have Hans := hid hans
            have HS2 := hid hS2
            have Hol := hid hol
            have hOS : (c.state == 0) = false ∨ ((c.state == 0) = true ∧ S.getD nd false = true) := by
              by_cases e : c.state = 0
              · right; refine ⟨by simp [e], ?_⟩
                cases hq : S.getD nd false
                · exact absurd ⟨e, hq⟩ h1
                · rfl
              · left; simp [e]
            generalize c.answer (nd : Int) Y = c2 at *
            generalize S.getD nd false = sd at *
            generalize c.state = st at *
            clear hS hC hbS hK hans hS2 hol hcnt hc1 h1 hl9 hsl
            by_cases hnl : nd < len
            · obtain ⟨by_, oy, rfl, _, hyc⟩ := hY1 hnl
              have hnl' : (nd : Int) < (len : Int) := by omega
              clear hY1 hY2
              rcases hOS with hO | ⟨hO, rfl⟩ <;> rcases hw with ⟨q1, q3⟩ | ⟨q1, q2, q3⟩ | ⟨q1, q2, q3⟩ <;>
              · go_wp2_with fail
                refine hst.out.mono ?_
                rintro e w' ⟨rfl, rfl⟩
                go_wp2_with fail
                refine Hans.out.mono ?_
                rintro e w5 ⟨rfl, hC5, hk5⟩
                have q5 := (hk5.cell (p := ⟨w2.heap.size, nd, none⟩) (lt_of_block HbS.out) (by show ¬ (w2.heap.size = b ∨ w2.heap.size = bm); omega)).trans hsd
                have HbS5 := hid ((hk5.block w2.heap.size (lt_of_block HbS.out) (by show ¬ (w2.heap.size = b ∨ w2.heap.size = bm); omega)).trans HbS.out)
                have HC5 := hid hC5
                have Hk5 := hid (Hk.out.trans (hk5.mono (fun _ _ h => by omega)))
                have hs5 := hid (state_at b bm vo _ w5 hC5 _ q3)
                have hy5 := hid (yes16_len b bm vo _ w5 hC5 (by rw [Hol.out, from_len]; omega) (by rw [Hol.out]; exact hwf) x HS2.out.yes.symm)
                clear hC5 hk5 q3
                go_wp2_with fail
                refine hs5.out.mono ?_
                rintro e w' ⟨rfl, rfl⟩
                go_wp2_with fail
                refine hy5.out.mono ?_
                rintro e w6 ⟨⟨a6, c6, rfl⟩, hp6⟩
                have Hp6 := hid hp6
                clear hp6 q5
                go_wp2
                go_roundw
                case rel => exact ⟨k + 1, _, _, x, y, by omega, by go_num, rfl, rfl, HC5.out.pure Hp6.out, HS2.out, (Hp6.out.block _ (lt_of_block HbS5.out)).trans HbS5.out, Hk5.out.trans (Pure.kept Hp6.out)⟩
                case measure => simp [intOf]; omega
            · have hyf := hY2 hnl
              subst hyf
              have hnl' : ¬ (nd : Int) < (len : Int) := by omega
              clear hY1 hY2
              rcases hOS with hO | ⟨hO, rfl⟩ <;> rcases hw with ⟨q1, q3⟩ | ⟨q1, q2, q3⟩ | ⟨q1, q2, q3⟩ <;>
              · go_wp2_with fail
                refine hst.out.mono ?_
                rintro e w' ⟨rfl, rfl⟩
                go_wp2_with fail
                refine Hans.out.mono ?_
                rintro e w5 ⟨rfl, hC5, hk5⟩
                have q5 := (hk5.cell (p := ⟨w2.heap.size, nd, none⟩) (lt_of_block HbS.out) (by show ¬ (w2.heap.size = b ∨ w2.heap.size = bm); omega)).trans hsd
                have HbS5 := hid ((hk5.block w2.heap.size (lt_of_block HbS.out) (by show ¬ (w2.heap.size = b ∨ w2.heap.size = bm); omega)).trans HbS.out)
                have HC5 := hid hC5
                have Hk5 := hid (Hk.out.trans (hk5.mono (fun _ _ h => by omega)))
                have hs5 := hid (state_at b bm vo _ w5 hC5 _ q3)
                have hy5 := hid (yes16_len b bm vo _ w5 hC5 (by rw [Hol.out, from_len]; omega) (by rw [Hol.out]; exact hwf) x HS2.out.yes.symm)
                clear hC5 hk5 q3
                go_wp2_with fail
                refine hs5.out.mono ?_
                rintro e w' ⟨rfl, rfl⟩
                go_wp2_with fail
                refine hy5.out.mono ?_
                rintro e w6 ⟨⟨a6, c6, rfl⟩, hp6⟩
                have Hp6 := hid hp6
                clear hp6 q5
                go_wp2
                go_roundw
                case rel => exact ⟨k + 1, _, _, x, y, by omega, by go_num, rfl, rfl, HC5.out.pure Hp6.out, HS2.out, (Hp6.out.block _ (lt_of_block HbS5.out)).trans HbS5.out, Hk5.out.trans (Pure.kept Hp6.out)⟩
                case measure => simp [intOf]; omega
        · have Hf := hid (fin.out _ hK)
          clear hC hS hbS hK
          by_cases h1 : (k : Int) < (o.length : Int)
          · have h2 : ¬ (k : Int) < 20 := fun h => hlt ⟨by omega, by omega⟩
            clear hlt
            go_wp2
            go_ret
            exact ⟨rfl, Hf.out⟩
          · clear hlt
            go_wp2
            go_ret
            exact ⟨rfl, Hf.out⟩
end Go.Proofs.Ytffafdkjgllpcaa
