import Derived.Test.YtffafdkjgllpcaaOneWalk
namespace Go.Proofs.Ytffafdkjgllpcaa
open Go.RowKit Go.Maps
/-! ClaimStays. -/
/-- The cells of a row of Say: node, yes, end. -/
structure Says (w : World) (a : Option Addr) (n cap : Nat) (l : List (Int × Bool × Bool)) : Prop where
  len : l.length = n
  le : n ≤ cap
  cap_le : cap ≤ maxLen
  cell : ∀ k, k < n → ∃ b off, a = some ⟨b, off, none⟩ ∧ b < w.heap.size ∧ w.cell? ⟨b, off + k * 3, none⟩ = some (.int .i64 (l.getD k (0, false, false)).1) ∧ w.cell? ⟨b, off + k * 3 + 1, none⟩ = some (.bool (l.getD k (0, false, false)).2.1) ∧ w.cell? ⟨b, off + k * 3 + 2, none⟩ = some (.bool (l.getD k (0, false, false)).2.2)
theorem Says.pure {w w' : World} {a : Option Addr} {n cap : Nat} {l : List (Int × Bool × Bool)} (h : Says w a n cap l) (hp : Pure w w') : Says w' a n cap l :=
  ⟨h.len, h.le, h.cap_le, fun k hk => by
    obtain ⟨b, off, e, hb, c0, c1, c2⟩ := h.cell k hk
    exact ⟨b, off, e, Nat.lt_of_lt_of_le hb hp.size, (hp.cell (by exact hb)).trans c0, (hp.cell (by exact hb)).trans c1, (hp.cell (by exact hb)).trans c2⟩⟩
theorem from_ok0 (k : Nat) (h1 : 1 ≤ k) (h2 : k ≤ 12) : newOk (from_ 0 k) 0 10 1 := by
  unfold newOk
  rw [from_dd, from_len]
  omega
/-- What a state may be. -/
def CM.four (c : CM) : Prop := c.state = 0 ∨ c.state = 1 ∨ c.state = 2 ∨ c.state = 3
theorem ended_four {c : CM} (h : c.four) : (c.state = 0 ∧ c.ended.state = 2) ∨ (c.state = 1 ∧ c.ended.state = 3) ∨ (c.state = 2 ∧ c.ended.state = 2) ∨ (c.state = 3 ∧ c.ended.state = 3) := by
  unfold CM.four at h; unfold CM.ended
  rcases h with h | h | h | h <;> simp [h]
theorem answer_four (c : CM) (x : Int) (y : Bool) :
    (c.counts x = false ∧ c.answer x y = c) ∨ (c.counts x = true ∧ c.state = 0 ∧ ((c.answer x y).state = 0 ∨ (c.answer x y).state = 1 ∨ (c.answer x y).state = 2)) := by
  unfold CM.answer
  cases hc : c.counts x with
  | false => exact .inl ⟨rfl, by simp⟩
  | true =>
    right
    have h0 : c.state = 0 := by simp [CM.counts] at hc; exact hc.1.1
    refine ⟨rfl, h0, ?_⟩
    rw [if_pos rfl]
    unfold CM.count
    dsimp only
    split
    · simp
    · split
      · simp
      · simp [h0]
theorem answer_seven {c : CM} (h : c.four) (x : Int) (y : Bool) {v : Bool} {s s' : Int} (hv : c.counts x = v) (hs : c.state = s) (hs' : (c.answer x y).state = s') :
    (v = false ∧ s = 0 ∧ s' = 0) ∨ (v = false ∧ s = 1 ∧ s' = 1) ∨ (v = false ∧ s = 2 ∧ s' = 2) ∨ (v = false ∧ s = 3 ∧ s' = 3) ∨ (v = true ∧ s = 0 ∧ s' = 0) ∨ (v = true ∧ s = 0 ∧ s' = 1) ∨ (v = true ∧ s = 0 ∧ s' = 2) := by
  subst hv; subst hs; subst hs'
  unfold CM.four at h
  rcases answer_four c x y with ⟨h1, h2⟩ | ⟨h1, h2, h3⟩
  · rw [h1, h2]; rcases h with h | h | h | h <;> simp [h]
  · rw [h1, h2]; rcases h3 with h3 | h3 | h3 <;> simp [h3]
theorem node_wf (x : Int) : (Lit.int .i64 ((IntKind.i64.wrap (x.tmod 10 + 10)).tmod 10)).wf = true := by
  have x1 : -10 < x.tmod 10 := by have := Int.lt_tmod_of_pos x (show (0 : Int) < 10 by decide); omega
  have x2 : x.tmod 10 < 10 := Int.tmod_lt_of_pos x (by decide)
  rw [IntWalk.i64_in _ (by omega)]
  have y1 := Int.lt_tmod_of_pos (x.tmod 10 + 10) (show (0 : Int) < 10 by decide)
  have y2 := Int.tmod_lt_of_pos (x.tmod 10 + 10) (show (0 : Int) < 10 by decide)
  exact wf_i64 _ (by omega)
theorem answer_owners (c : CM) (x : Int) (y : Bool) : (c.answer x y).owners = c.owners := by unfold CM.answer; split <;> rfl
theorem ended_owners (c : CM) : c.ended.owners = c.owners := by unfold CM.ended; split <;> (try split) <;> rfl
theorem state_at (b bm : Nat) (vo : Value) (c : CM) (w : World) (h : ClaimAt w b bm vo c) (s : Int) (hs : c.state = s) :
    Calls Try.prog 11 #[.pointer (some ⟨b, 0, none⟩)] w fun e w' => e = .returned (.int .i64 s) ∧ w = w' := by subst hs; exact state_yes b bm vo c w h

set_option maxRecDepth 8000 in
set_option maxHeartbeats 2000000 in
theorem stays_walk (n : Int) (a : Option Addr) (len cap : Nat) (l : List (Int × Bool × Bool)) (w : World) (hv : Says w a len cap l) :
    Calls Try.prog 5 #[.int .i64 n, .slice a len cap] w fun e w' => e = .returned (.bool true) ∧ Pure w w' := by
  have ha := hid (awake_any w)
  have r1 : -9 < n.tmod 9 := by have := Int.lt_tmod_of_pos n (show (0 : Int) < 9 by decide); omega
  have r2 : n.tmod 9 < 9 := Int.tmod_lt_of_pos n (by decide)
  obtain ⟨K, hK⟩ : ∃ K : Nat, 1 + n.tmod 9 % 9 = (K : Int) := ⟨(1 + n.tmod 9 % 9).toNat, by omega⟩
  have hK1 : 1 ≤ K := by omega
  have hK2 : K ≤ 9 := by omega
  have hcap := hv.cap_le
  have hle := hv.le
  unfold maxLen at hcap
  have HV := hid hv
  clear hv
  go_enter Try.func5, Try.ntmps5
  go_wp2_with fail
  refine ha.out.mono ?_
  rintro e w1 ⟨rfl, hp1⟩
  go_wp2_with fail
  rw [show (n.tmod 9 + 9) % 9 = n.tmod 9 % 9 by omega]
  clear hK r1 r2
  obtain ⟨i0, hi, hz0, hz1, hz2⟩ := info_parts infoInt
  go_loopw [7, 8] (fun v i wr => ∃ j : Nat, j ≤ K ∧ i = .int .i64 j ∧ wr.ownsRow w.heap.size 3 1 v (from_ 0 j).length ((from_ 0 j).map (Value.int .i64)) ∧ Pure w wr) (fun _ i _ => K - (intOf i).toNat)
  case atStart => exact ⟨0, Nat.zero_le _, rfl, World.ownsRow_nil _ _ _ _, hp1⟩
  case round =>
    obtain ⟨j, hj, rfl, hown, hp⟩ := hrel
    by_cases hlt : j < K
    · have hfl : (from_ 0 j).length ≤ 9 := by rw [from_len]; omega
      go_wp2_with (at_builtin; refine wpList_append_own _ rfl _ _ 22 rfl w.heap.size 3 i0 (.int .i64 0) 1 8 Try.underlying22 hi hz0 hz1 hz2 rfl (by decide) _ _ _ rfl (hown.alloc _) ⟨wr.heap.size, 0, none⟩ 1 1 [.int .i64 (j : Int)] rfl rfl hnews_one ?c2 ?c3 ?c4 ?c5 ?_)
      case c2 => intro u hu; simp at hu; subst hu; rfl
      case c3 => unfold maxLen; omega
      case c4 => omega
      case c5 => have := hp.size; simp; omega
      intro v2 w2 hown2 hg2 _
      go_wp2
      go_roundw
      case rel => exact ⟨j + 1, by omega, by go_num, by rw [from_succ, Int.zero_add]; exact ownsRow_snoc hown2, (hp.alloc hp.size _).grown hg2 (by have := hp.size; simp; omega) (fun k hk => (hown.lt k hk).1)⟩
      case measure => simp [intOf]; omega
    · obtain rfl : j = K := by omega
      obtain ⟨wo, rfl⟩ : ∃ wo : World, wo = wr := ⟨_, rfl⟩
      have hwf := from_wf 0 j (by omega) (by omega) (by omega)
      obtain ⟨a2, cap2, rfl⟩ := (Row.of_own hown).shape
      have hI : Ints wo (.slice a2 j cap2) (from_ 0 j) := by
        have h := Row.of_own hown
        rw [from_len] at h
        unfold Ints
        rw [from_len]; exact h
      have hnew := hid (new_ok 1 1 1 0 10 1 _ (from_ 0 j) wo hI (by rw [from_len]; omega) hwf (from_ok0 j hK1 (by omega)))
      rw [from_len]
      have Hp := hid hp
      have Hwf := hid hwf
      clear hI hown hp
      go_wp2_with fail
      refine hnew.out.mono ?_
      rintro e w2 ⟨b, bm, vo, rfl, hA, hb, hbm, hvo, hp2⟩
      have HP := hid (Hp.out.then_ hp2)
      have HV2 := hid (HV.out.pure HP.out)
      have hwlt := hid (fun k (hk : k < len) => by
        obtain ⟨b', off, e, hb', _⟩ := HV.out.cell k hk
        exact (show ∃ b' off, a = some ⟨b', off, none⟩ ∧ b' < w.heap.size from ⟨b', off, e, hb'⟩))
      have hszw : w.heap.size ≤ wo.heap.size := Hp.out.size
      have HA := hid hA
      have hst := hid (state_at b bm vo _ w2 hA 0 rfl)
      have fin := hid (fun W (hW : Kept (fun k => k = b ∨ k = bm) w2 W) => HP.out.kept_then hW (fun k hk => by omega))
      clear hA hp2
      go_wp2_with fail
      refine hst.out.mono ?_
      rintro e w' ⟨rfl, rfl⟩
      go_wp2_with fail
      go_loopw [10] (fun i wr => ∃ (k : Nat) (c : CM), k ≤ len ∧ i = .int .i64 k ∧ ClaimAt wr b bm vo c ∧ c.owners = from_ 0 j ∧ c.four ∧ Kept (fun k => k = b ∨ k = bm) w2 wr) (fun i _ => len - (intOf i).toNat)
      case atStart => exact ⟨0, _, Nat.zero_le _, rfl, HA.out, from_dd 0 j, .inl rfl, Kept.refl _ _⟩
      case round =>
        obtain ⟨k, c, hk, rfl, hC, hco, hcf, hK⟩ := hrel
        by_cases hlt : k < len ∧ k < 40
        · obtain ⟨hlt1, hlt2⟩ := hlt
          have hl1 : (k : Int) < (len : Int) := by omega
          have hl2 : (k : Int) < 40 := by omega
          obtain ⟨bl, off, rfl, hbl⟩ := hwlt.out k hlt1
          have hcell := hid (fun W (hW : Kept (fun k => k = b ∨ k = bm) w2 W) => by
            obtain ⟨b', off', e, hb', c0, c1, c2⟩ := HV2.out.cell k hlt1
            cases e
            have hne : ¬ (bl = b ∨ bl = bm) := by omega
            exact (show W.cell? ⟨bl, off + k * 3, none⟩ = some (.int .i64 (l.getD k (0, false, false)).1) ∧ W.cell? ⟨bl, off + k * 3 + 1, none⟩ = some (.bool (l.getD k (0, false, false)).2.1) ∧ W.cell? ⟨bl, off + k * 3 + 2, none⟩ = some (.bool (l.getD k (0, false, false)).2.2) from
              ⟨(hW.cell (p := ⟨bl, off + k * 3, none⟩) hb' hne).trans c0, (hW.cell (p := ⟨bl, off + k * 3 + 1, none⟩) hb' hne).trans c1, (hW.cell (p := ⟨bl, off + k * 3 + 2, none⟩) hb' hne).trans c2⟩))
          generalize l.getD k (0, false, false) = t at *
          obtain ⟨x, y, z⟩ := t
          dsimp only at hcell
          obtain ⟨q0, q1, q2⟩ := hcell.out wr hK
          obtain ⟨s, hs⟩ : ∃ s, c.state = s := ⟨_, rfl⟩
          have hs1 := hid (state_at b bm vo c wr hC s hs)
          cases z with
          | true =>
            have hend := hid (end_any b bm vo c wr hC)
            have hf := ended_four hcf
            rw [hs] at hf
            have HC := hid hC
            have Hk := hid hK
            have Hco := hid hco
            clear hC hK hco hcell q0 q1 hcf
            rcases hf with ⟨rfl, h5⟩ | ⟨rfl, h5⟩ | ⟨rfl, h5⟩ | ⟨rfl, h5⟩ <;>
            · have H5 := hid h5
              clear h5 hs
              go_wp2_with fail
              refine hs1.out.mono ?_
              rintro e w' ⟨rfl, rfl⟩
              go_wp2_with fail
              refine hend.out.mono ?_
              rintro e w5 ⟨rfl, hC5, hk5⟩
              have HC5 := hid hC5
              have Hk5 := hid hk5
              have hs5 := hid (state_at b bm vo _ w5 hC5 _ H5.out)
              clear hC5 hk5 q2
              go_wp2_with fail
              refine hs5.out.mono ?_
              rintro e w' ⟨rfl, rfl⟩
              go_wp2
              go_roundw
              case rel => exact ⟨k + 1, _, by omega, by go_num, HC5.out, (ended_owners c).trans Hco.out, by unfold CM.four; simp [H5.out], Hk.out.trans Hk5.out⟩
              case measure => simp [intOf]; omega
          | false =>
            have hans := answer_any b bm vo c ((IntKind.i64.wrap (x.tmod 10 + 10)).tmod 10) y wr.drew (hC.pure ((Below.refl _ _).drew)) (node_wf x) (by rw [hco, from_len]; omega) (by rw [hco]; exact Hwf.out)
            obtain ⟨v, hv⟩ : ∃ v, c.counts ((IntKind.i64.wrap (x.tmod 10 + 10)).tmod 10) = v := ⟨_, rfl⟩
            obtain ⟨s', hs'⟩ : ∃ s', (c.answer ((IntKind.i64.wrap (x.tmod 10 + 10)).tmod 10) y).state = s' := ⟨_, rfl⟩
            have h7 := answer_seven hcf _ y hv hs hs'
            have hos := (answer_owners c ((IntKind.i64.wrap (x.tmod 10 + 10)).tmod 10) y).trans hco
            rw [hv] at hans
            generalize c.answer ((IntKind.i64.wrap (x.tmod 10 + 10)).tmod 10) y = c2 at *
            have Hans := hid hans
            have Hs' := hid hs'
            have Hos := hid hos
            have Hk := hid hK
            have Hcell := hid (fun W (hW : Kept (fun k => k = b ∨ k = bm) w2 W) => (show W.cell? ⟨bl, off + k * 3, none⟩ = some (.int .i64 x) ∧ W.cell? ⟨bl, off + k * 3 + 1, none⟩ = some (.bool y) ∧ Kept (fun k => k = b ∨ k = bm) w2 W from ⟨(hcell.out W hW).1, (hcell.out W hW).2.1, hW⟩))
            clear hC hK hco hcell q0 q1 hcf hans hs' hs hos hv
            rcases h7 with ⟨rfl, rfl, rfl⟩ | ⟨rfl, rfl, rfl⟩ | ⟨rfl, rfl, rfl⟩ | ⟨rfl, rfl, rfl⟩ | ⟨rfl, rfl, rfl⟩ | ⟨rfl, rfl, rfl⟩ | ⟨rfl, rfl, rfl⟩ <;>
            · go_wp2_with fail
              refine hs1.out.mono ?_
              rintro e w' ⟨rfl, rfl⟩
              go_wp2_with fail
              clear q2
              go_region_held3 (fun W => W.cell? ⟨bl, off + k * 3, none⟩ = some (.int .i64 x) ∧ W.cell? ⟨bl, off + k * 3 + 1, none⟩ = some (.bool y) ∧ Kept (fun k => k = b ∨ k = bm) w2 W)
                (first | exact Hcell.out _ Hk.out.drew | exact Hcell.out _ (Hk.out.drew.trans (by assumption)))
                (first | (go_at_call 10; refine Hans.out.mono ?_; rintro e w7 ⟨rfl, hC7, hk7⟩))
              have hs7 := hid (state_at b bm vo _ w7 hC7 _ Hs'.out)
              have HC7 := hid hC7
              have Hk7 := hid (Hk.out.drew.trans hk7)
              clear hC7 hk7
              go_wp2_with fail
              refine hs7.out.mono ?_
              rintro e w' ⟨rfl, rfl⟩
              go_wp2
              go_roundw
              case rel => exact ⟨k + 1, _, by omega, by go_num, HC7.out, Hos.out, by unfold CM.four; simp [Hs'.out], Hk7.out⟩
              case measure => simp [intOf]; omega
        · have hge : (decide ((k : Int) < (len : Int)) && decide ((k : Int) < 40)) = false := by simp; omega
          have Hf := hid (fin.out _ hK)
          clear hC hco hcf hK
          by_cases h1 : (k : Int) < (len : Int)
          · have h2 : ¬ (k : Int) < 40 := fun h => hlt ⟨by omega, by omega⟩
            clear hlt hge
            go_wp2
            go_ret
            exact ⟨rfl, Hf.out⟩
          · clear hlt hge
            go_wp2
            go_ret
            exact ⟨rfl, Hf.out⟩
end Go.Proofs.Ytffafdkjgllpcaa
