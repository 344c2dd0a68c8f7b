/- watch: the walk of Tick. -/
import Derived.Test.YtlamhobkmknnpaaWatchF
import Derived.Deep.CutBlock
namespace Go.Proofs.Ytlamhobkmknnpaa
open Go.RowKit Go.Maps Go.MapKept

theorem slice_suf_off {P : Program} {t e : TypeId} {size : Nat} (ht : P.underlying t = some (.slice e)) {w : World} {a : Option Addr} {n cap : Nat} {xs : List Value} (h : Row w (.slice a n cap) n size xs) {k : Nat} (hk : k ≤ n) (hp : a = none ∨ ∃ b o, a = some ⟨b, o, none⟩) (hsz : ∀ W, (sizeOf e).run P W = .ok size W) :
    ∃ v1, (∀ W, (Instr.slice t (.slice a n cap) (some (.int .i64 k)) none none).run P W = .ok v1 W) ∧ (∀ W, Row W (.slice a n cap) n size xs → Row W v1 (n - k) size (xs.drop (k * size))) ∧ ∀ j, v1.rb = some j → (Value.slice a n cap).rb = some j := by
  have hr := h
  obtain ⟨hl, a', cap', e', h1, h2, hc⟩ := h
  cases e'
  have hte : P.elem t = e := by simp [Program.elem, ht]
  have ht' : P.underlying t = some (.slice (P.elem t)) := by rw [hte]; exact ht
  rcases hp with rfl | ⟨b, o, rfl⟩
  · rcases hc with rfl | ⟨_, _, e, _⟩
    · obtain rfl : n = 0 := by omega
      obtain rfl : k = 0 := by omega
      obtain rfl : xs = [] := List.eq_nil_of_length_eq_zero (by simpa using hl)
      refine ⟨.slice none 0 0, fun W => ?_, fun W _ => ⟨by simp, none, 0, rfl, by omega, by simp, .inl rfl⟩, fun j hj => by simp [Value.rb] at hj⟩
      refine Eq.trans (run_slice_l (P := P) (w := W) t none 0 0 ht' .i64 (0 : Int) (by omega) (by omega)) ?_
      rw [hte, hsz]
      simp [sliced, go_sem]
    · cases e
  · by_cases hz : cap = k
    · obtain rfl : cap = n := by omega
      subst hz
      refine ⟨.slice (some ⟨b, o, none⟩) 0 0, fun W => ?_, fun W _ => ⟨by simp; omega, some ⟨b, o, none⟩, 0, by simp, by omega, by simp, .inl rfl⟩, fun j hj => by simp [Value.rb] at hj⟩
      rw [run_slice_l (P := P) (w := W) t (some ⟨b, o, none⟩) cap cap ht' .i64 (cap : Int) (by omega) (by omega), hte, hsz]
      simp [sliced, go_sem]
    · refine ⟨.slice (some ⟨b, o + k * size, none⟩) (n - k) (cap - k), fun W => ?_, fun W hW => row_suf hW hk, fun j hj => by
        simp only [Value.rb] at hj ⊢
        by_cases h0 : cap = 0
        · omega
        · have hck : cap - k ≠ 0 := by omega
          rw [if_neg hck] at hj
          rw [if_neg h0]; exact hj⟩
      rw [run_slice_l (P := P) (w := W) t (some ⟨b, o, none⟩) n cap ht' .i64 (k : Int) (by omega) (by omega), hte, hsz]
      simp [sliced, go_sem, hz, Addr.add]
set_option maxRecDepth 100000 in
set_option maxHeartbeats 8000000 in
theorem tick_any (b mb : Nat) (vr v : Value) (S : WS) (l : List Pr) (n : Nat) (now draw : Int) (w : World) (h : WAt w b mb vr S) (ho : WOk n S) (hn : n ≤ 1000) (hv : Peers w v l) (hoff : Off b mb v) (hl : l.length ≤ 1000) (hpl : POk l) (hnow : -1000000 ≤ now ∧ now ≤ 1000000) :
    Calls Try.prog 12 #[.pointer (some ⟨b, 0, none⟩), v, .int .i64 now, .int .i64 draw] w (TickP b mb vr w (tick S l now draw)) := by
  have hm := hid (wmade_yes b mb vr S w h)
  have k3 : w.cell? ⟨b, 3, none⟩ = some (.int .i64 S.clock) := cell_of_block h.blk 3
  have f3 : w.frozen? ⟨b, 3, none⟩ = false := free_of_block h.blk 3
  obtain ⟨a, cap, rfl⟩ := hv.shape
  have Hpl := hid hpl
  have hc0 := ho.clock
  have hper := ho.period
  have hpt := ho.patience
  have Ho := hid (ho.clock' (c := max S.clock now) (by omega))
  obtain ⟨w1, hw1⟩ : ∃ w1, w1 = w.setCell ⟨b, 3, none⟩ (.int .i64 (max S.clock now)) := ⟨_, rfl⟩
  have hst := h.stored (S' := { S with clock := max S.clock now }) 3 (.int .i64 (max S.clock now)) rfl rfl h.rnd h.off
  rw [← hw1] at hst
  have HW1 := hid hst.1
  have HK1 := hid hst.2
  have Hv1 := hid (show Peers w1 (.slice a l.length cap) l from Row.kept hv hst.2 (fun k hk e => by
    have := hoff k hk
    rcases e with e | e
    · exact this.1 e
    · exact this.2 e))
  have Hoff := hid hoff
  have Hw1 := hid hw1
  have Hearly := hid (fun (w' : World) (vn v1 : Value) => tickP_early (b := b) (mb := mb) (w := w) (w' := w') (S := S) (l := l) (now := now) (draw := draw) (vn := vn) (vr := v1) (v0 := vr))
  have Hnone := hid (fun (w' : World) (vn v1 : Value) => tickP_none (b := b) (mb := mb) (w := w) (w' := w') (S := S) (l := l) (now := now) (draw := draw) (vn := vn) (vr := v1) (v0 := vr))
  have Hask := hid (fun (w' : World) (ask : Int) (rest : List Int) (vn v1 : Value) => tickP_ask (b := b) (mb := mb) (w := w) (w' := w') (S := S) (l := l) (now := now) (draw := draw) (ask := ask) (rest := rest) (vn := vn) (vr := v1) (v0 := vr))
  have hlate := hid (fun W (hW : Pure w1 W) => late_any b mb vr (.slice a l.length cap) { S with clock := max S.clock now } l n W (HW1.out.pure hW) Ho.out hn (Row.pure Hv1.out hW) Hoff.out hl)
  have hrf := hid (fun W v2 (hP : Peers W v2 (tickL S l now).1) => refute_any v2 (tickL S l now).1 S.own W hP (by rw [show (tickL S l now).1.length = l.length from lateL_len]; omega) (fun p hp => by have := (lateL_pok Hpl.out : POk (tickL S l now).1) p hp; omega))
  have Hlate := hid (ho.late (l := l) (now := now) hnow.2)
  have hcl : Hid (0 ≤ max S.clock now ∧ max S.clock now ≤ 1000000) := hid (by omega)
  clear h hv hoff hpl hst hw1 ho
  go_enter Try.func12, Try.ntmps12
  go_wp2_with (go_at_call 25; (with_reducible refine hm.out.mono ?_); rintro e w' ⟨rfl, rfl⟩)
  rw [← Hw1.out]
  go_cut [10] from 26 to 105 (fun o wx => ∃ vx, o = vx ∧ Peers wx vx (tickN S l now) ∧ Off b mb vx ∧ WAt wx b mb vr (tick1 S l now) ∧ Kept (W2 b mb) w wx)
  case first =>
    have x0 : w1.cell? ⟨b, 0, none⟩ = some (.int .i64 S.own) := cell_of_block HW1.out.blk 0
    have hpd : Pure w1 w1.drew := (Below.refl _ _).drew
    go_region_with (first
      | (go_at_call 27; (with_reducible refine (hlate.out _ hpd).mono ?_); rintro e w2 ⟨v2, rfl, hPe2, hOf2, hW2, hK2⟩; have r0 : w2.cell? ⟨b, 0, none⟩ = some (.int .i64 S.own) := cell_of_block hW2.blk 0; have hR2 := hid (hrf.out w2 v2 hPe2); have HW2 := hid hW2; have HK2 := hid hK2; clear hOf2 hW2 hK2; obtain ⟨a2, c2, rfl⟩ := hPe2.shape; clear hPe2)
      | (go_at_call 26; (with_reducible refine hR2.out.mono ?_); rintro e w3 ⟨v3, rfl, hown3, hp3⟩; have Hown3 := hid hown3; have Hp3 := hid hp3; clear hown3 hp3))
    all_goals
      go_wp2
      go_meet
      exact ⟨v3, rfl, Row.of_own Hown3.out, Off.own Hown3.out (lt_of_block HW2.out.blk) HW2.out.map.lt, HW2.out.pure Hp3.out, (HK1.out.drew.trans HK2.out).trans Hp3.out.kept⟩
  case rest =>
    obtain ⟨vx, rfl, hPe, hOf, hW, hK⟩ := hcut
    have HPe := hid hPe
    have HOf := hid hOf
    have HW := hid hW
    have HK := hid hK
    obtain ⟨ax, cx, rfl⟩ := hPe.shape
    clear hPe hOf hW hK hlate hrf
    obtain ⟨wx, rfl⟩ : ∃ wx : World, wx = wc := ⟨_, rfl⟩
    have c1 : wx.cell? ⟨b, 1, none⟩ = some (.int .i64 S.period) := cell_of_block HW.out.blk 1
    have c3 : wx.cell? ⟨b, 3, none⟩ = some (.int .i64 (max S.clock now)) := cell_of_block HW.out.blk 3
    have c4 : wx.cell? ⟨b, 4, none⟩ = some (.int .i64 S.due) := cell_of_block HW.out.blk 4
    have z4 : wx.frozen? ⟨b, 4, none⟩ = false := free_of_block HW.out.blk 4
    generalize hCe : max S.clock now = C at *
    have HCe := hid hCe
    clear hCe
    by_cases hdue : C < S.due
    · have hd : decide (C < S.due) = true := by simpa using hdue
      have Hd := hid hdue
      go_wp2_with fail
      go_quiet (fail)
      go_wp2
      exact bodyPost_ret (v := .tuple #[.int .i64 0, .bool false, .slice ax (tickN S l now).length cx]) (by simp [results, Try.results12, go_sem]) rfl (Hearly.out _ _ _ Hd.out (Row.pure HPe.out (pure_drewN _ _)) HOf.out (HW.out.pure (pure_drewN _ _)) (HK.out.trans (pure_drewN _ _).kept) (fun k hk => .inl hk))
    · have hd : decide (C < S.due) = false := by simpa using hdue
      have Hd := hid hdue
      clear hdue
      have hwr : IntKind.i64.wrap (C + S.period) = C + S.period := IntWalk.i64_in _ (by have := hcl.out; omega)
      have hC := hcl.out
      go_wp2_with fail
      go_quiet (fail)
      go_upto_region 7 with fail
      have Hst7 := hid (fun W (h : WAt W b mb vr (tick1 S l now)) => h.stored (S' := tick2 S l now) 4 (.int .i64 (C + S.period)) (by show _ = wcs (tick2 S l now) mb vr; unfold tick2; rw [HCe.out]; rfl) rfl h.rnd h.off)
      go_cut [10] from 44 to 105 (fun o wx2 => o = .slice ax (tickN S l now).length cx ∧ WAt wx2 b mb vr (tick2 S l now) ∧ Kept (W2 b mb) wx wx2)
      case first =>
        go_region_with (fail)
        all_goals
          go_wp2
          go_meet
          exact ⟨rfl, (Hst7.out _ (HW.out.pure (pure_drewN _ _))).1, (pure_drewN _ _).kept.trans (Hst7.out _ (HW.out.pure (pure_drewN _ _))).2⟩
      case rest =>
        obtain ⟨rfl, hW2, hK2⟩ := hcut
        obtain ⟨wy, rfl⟩ : ∃ wy : World, wy = wc := ⟨_, rfl⟩
        have HW2 := hid hW2
        have HK2 := hid (HK.out.trans hK2)
        have HPe2 := hid (show Peers wy (.slice ax (tickN S l now).length cx) (tickN S l now) from Row.kept HPe.out hK2 (fun k hk e => by
          have := HOf.out k hk
          rcases e with e | e
          · exact this.1 e
          · exact this.2 e))
        have hnl : (tickN S l now).length = l.length := tickN_len
        have hag := hid (again_any b mb vr (.slice ax (tickN S l now).length cx) (tick2 S l now) (tickN S l now) n draw wy HW2.out Hlate.out HPe2.out (by omega) (mem_wf (tickN_pok Hpl.out)))
        have HR := hid (show againL (tick2 S l now) (tickN S l now) draw = tickR S l now draw from rfl)
        rw [HR.out] at hag
        have HRb := hid (fun x (hx : x ∈ tickR S l now draw) => tickR_bd Hpl.out hx)
        generalize hRe : tickR S l now draw = R at *
        have HRe := hid hRe
        have Hnl := hid hnl
        clear hRe hnl hW2 hK2 c1 c3 c4 z4 hd hwr Hst7
        go_wp2_with fail
        refine hag.out.mono ?_
        rintro e w3 ⟨v3, rfl, hown3, hp3⟩
        have HW3 := hid (HW2.out.pure hp3)
        have HPe3 := hid (show Peers w3 (.slice ax (tickN S l now).length cx) (tickN S l now) from Row.pure HPe2.out hp3)
        have HK3 := hid (HK2.out.trans hp3.kept)
        have Hoff3 := hid (Off.own (b := b) (mb := mb) hown3 (lt_of_block HW2.out.blk) HW2.out.map.lt)
        have HI3 := hid (show Ints w3 v3 R from Row.of_own hown3)
        have Hfr3 := hid (show Fr w vr v3 from fun k hk => .inr (by have := (hown3.lt k (rb_own hk)).1; have := HK2.out.size; omega))
        have Hptr : Hid (∃ a3 c3, v3 = .slice a3 R.length c3 ∧ (a3 = none ∨ ∃ b o, a3 = some ⟨b, o, none⟩)) := by
          obtain ⟨_, ⟨rfl, h0⟩ | ⟨g', cap', cur, rfl, _⟩⟩ := hown3
          · exact ⟨none, 0, by rw [h0], .inl rfl⟩
          · exact ⟨_, _, rfl, .inr ⟨_, _, rfl⟩⟩
        obtain ⟨a3, c3, hv3, hptr⟩ := Hptr.out
        subst hv3
        have Hst := hid (HW3.out.stored (S' := { tick2 S l now with round := R }) 6 (.slice a3 R.length c3) rfl rfl HI3.out Hoff3.out)
        obtain ⟨w4, hw4⟩ : ∃ w4, w4 = w3.setCell ⟨b, 6, none⟩ (.slice a3 R.length c3) := ⟨_, rfl⟩
        have z6 : w3.frozen? ⟨b, 6, none⟩ = false := free_of_block HW3.out.blk 6
        have y6 : w3.cell? ⟨b, 6, none⟩ = some vr := cell_of_block HW3.out.blk 6
        have Hst4 := hid (show WAt w4 b mb (.slice a3 R.length c3) { tick2 S l now with round := R } ∧ Kept (W2 b mb) w3 w4 from by rw [hw4]; exact Hst.out)
        have HPe4 := hid (show Peers w4 (.slice ax (tickN S l now).length cx) (tickN S l now) from Row.kept HPe3.out Hst4.out.2 (fun k hk e => by
          have := HOf.out k hk
          rcases e with e | e
          · exact this.1 e
          · exact this.2 e))
        have Hw4 := hid hw4
        clear hown3 hp3 Hst hw4
        go_upto_region 9 with fail
        rw [← Hw4.out]
        clear z6 y6
        have y3 : w4.cell? ⟨b, 3, none⟩ = some (.int .i64 (max S.clock now)) := cell_of_block Hst4.out.1.blk 3
        have y5 : w4.cell? ⟨b, 5, none⟩ = some (.map (some mb)) := cell_of_block Hst4.out.1.blk 5
        have y6 : w4.cell? ⟨b, 6, none⟩ = some (.slice a3 R.length c3) := cell_of_block Hst4.out.1.blk 6
        have z6 : w4.frozen? ⟨b, 6, none⟩ = false := free_of_block Hst4.out.1.blk 6
        rw [HCe.out] at y3
        cases R with
        | nil =>
          go_wp2
          exact bodyPost_ret (v := .tuple #[.int .i64 0, .bool false, .slice ax (tickN S l now).length cx]) (by simp [results, Try.results12, go_sem]) rfl (Hnone.out _ _ _ Hd.out (by first | rfl | trivial | exact HRe.out) HPe4.out HOf.out Hst4.out.1 (HK3.out.trans Hst4.out.2) Hfr3.out)
        | cons ask rest =>
          obtain ⟨_, _, _, hc⟩ := Ints.cell (show Ints w4 (.slice a3 (ask :: rest).length c3) (ask :: rest) from Hst4.out.1.rnd)
          obtain ⟨bi, oi, rfl, hbi, hci⟩ : ∃ bi oi, a3 = some ⟨bi, oi, none⟩ ∧ bi < w4.heap.size ∧ w4.cell? ⟨bi, oi, none⟩ = some (.int .i64 ask) := by
            rcases hc with ⟨h0, _⟩ | ⟨bi, oi, e, hb, hcc⟩
            · cases h0
            · exact ⟨bi, oi, e, hb, by have := hcc 0 (by simp); simpa [List.getD] using this⟩
          have hlen1 : (1 : Nat) ≤ (ask :: rest).length := by simp
          have hlr : (((ask :: rest).length : Nat) : Int) = (rest.length : Int) + 1 := by simp
          obtain ⟨vs, hvs, his, hof⟩ := slice_suf_off Try.underlying23 Hst4.out.1.rnd hlen1 (.inr ⟨_, _, rfl⟩) sizeIntW
          have hrest := hid (fun W (hW : Row W (.slice (some ⟨bi, oi, none⟩) (ask :: rest).length c3) (ask :: rest).length 1 ((ask :: rest).map (Value.int .i64))) => (show Ints W vs rest from by have := his W hW; simpa [Ints] using this))
          have Hfrs := hid (show Fr w vr vs from fun k hk => Hfr3.out k (hof k hk))
          have Hofs := hid (show Off b mb vs from fun k hk => Hst4.out.1.off k (hof k hk))
          clear hc his hof
          obtain ⟨sa, sc, hs⟩ := (hrest.out w4 Hst4.out.1.rnd).shape
          subst hs
          go_upto_region 12 with fail
          simp only [List.length_cons] at hvs y6
          obtain ⟨V, hV⟩ : ∃ V, V = Value.slice (some ⟨bi, oi, none⟩) (rest.length + 1) c3 := ⟨_, rfl⟩
          rw [← hV] at hvs y6
          have hvs : ∀ W, (Instr.slice 23 V (some (.int .i64 1)) none none).run Try.prog W = .ok (.slice sa rest.length sc) W := hvs
          obtain ⟨w5, hw5⟩ : ∃ w5, w5 = w4.setCell ⟨b, 6, none⟩ (.slice sa rest.length sc) := ⟨_, rfl⟩
          have Hst5 := hid (show WAt w5 b mb (.slice sa rest.length sc) { tick2 S l now with round := rest } ∧ Kept (W2 b mb) w4 w5 from by rw [hw5]; exact Hst4.out.1.stored 6 (.slice sa rest.length sc) rfl rfl (hrest.out w4 Hst4.out.1.rnd) Hofs.out)
          have Hw5 := hid hw5
          clear hV hw5
          go_upto_region 13 with fail
          rw [← Hw5.out]
          clear hvs y6 z6 y3 y5 hci
          have y3 : w5.cell? ⟨b, 3, none⟩ = some (.int .i64 (max S.clock now)) := cell_of_block Hst5.out.1.blk 3
          have y5 : w5.cell? ⟨b, 5, none⟩ = some (.map (some mb)) := cell_of_block Hst5.out.1.blk 5
          rw [HCe.out] at y3
          have wa : (Lit.int .i64 ask).wf = true := wf_i64 _ (by have := HRb.out ask (by simp); omega)
          have hl0 := Hst5.out.1.map.look (P := Try.prog) Try.underlying3 Try.underlying45 (zeroInt _) ask wa true
          simp only [if_true] at hl0
          have HPe5 := hid (show Peers w5 (.slice ax (tickN S l now).length cx) (tickN S l now) from Row.kept HPe4.out Hst5.out.2 (fun k hk e => by
            have := HOf.out k hk
            rcases e with e | e
            · exact this.1 e
            · exact this.2 e))
          have HK5 := hid ((HK3.out.trans Hst4.out.2).trans Hst5.out.2)
          have Hmap := hid (show IMap encI w5 mb (tickL S l now).2 from Hst5.out.1.map)
          have hlook : (Instr.lookup 45 (.map (some mb)) (.int .i64 ask) true).run Try.prog w5 = .ok (.tuple #[((mlook (tickL S l now).2 ask).map encI).getD (.int .i64 0), .bool (mlook (tickL S l now).2 ask).isSome]) w5 := hl0
          clear hl0
          generalize hB : (mlook (tickL S l now).2 ask).isSome = B at *
          generalize ((mlook (tickL S l now).2 ask).map encI).getD (.int .i64 0) = zz at *
          have HB := hid hB
          clear hB
          cases B with
          | true =>
            have hW6 := hid (show WAt w5 b mb (.slice sa rest.length sc) { tick2 S l now with round := rest, waits := tickW S l now ask } from by unfold tickW; rw [HB.out]; exact Hst5.out.1)
            go_wp2
            exact bodyPost_ret (v := .tuple #[.int .i64 ask, .bool true, .slice ax (tickN S l now).length cx]) (by simp [results, Try.results12, go_sem]) rfl (Hask.out _ _ _ _ _ Hd.out (by first | rfl | trivial | exact HRe.out) HPe5.out HOf.out hW6.out HK5.out Hfrs.out)
          | false =>
            have hW6 := hid (fun W (hm : IMap encI W mb (mput (tickL S l now).2 ask C)) (hg : w5.grownBy W (some mb)) => (show WAt W b mb (.slice sa rest.length sc) { tick2 S l now with round := rest, waits := tickW S l now ask } ∧ Kept (W2 b mb) w5 W from by
              have := Hst5.out.1.turned hm hg
              unfold tickW; rw [HB.out, HCe.out]; exact this))
            go_upto_region 15 with fail
            obtain ⟨w6, hrun, hm6, hg6, _⟩ := (show IMap encI w5.drew mb (tickL S l now).2 from Hmap.out.pure (Below.refl _ _).drew).put (P := Try.prog) (t := 45) (kt := 3) (e := 3) Try.underlying3 Try.underlying45 ask wa C
            have HT := hid (hW6.out w6 hm6 ⟨hg6.os, hg6.tape, hg6.output, hg6.size, hg6.block⟩)
            clear hm6 hg6
            have hrun : (Instr.mapUpdate 45 (.map (some mb)) (.int .i64 ask) (.int .i64 C)).run Try.prog w5.drew = .ok () w6 := hrun
            go_region_with (fail)
            all_goals
              go_wp2
              exact bodyPost_ret (v := .tuple #[.int .i64 ask, .bool true, .slice ax (tickN S l now).length cx]) (by simp [results, Try.results12, go_sem]) rfl (Hask.out _ _ _ _ _ Hd.out (by first | rfl | trivial | exact HRe.out) (Row.kept HPe5.out HT.out.2 (fun k hk e => by
                have := HOf.out k hk
                rcases e with e | e
                · exact this.1 e
                · exact this.2 e)) HOf.out HT.out.1 (HK5.out.trans HT.out.2) Hfrs.out)
end Go.Proofs.Ytlamhobkmknnpaa
