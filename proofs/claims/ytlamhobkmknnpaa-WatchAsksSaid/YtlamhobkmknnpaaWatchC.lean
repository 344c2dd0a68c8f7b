/- watch: late. -/
import Derived.Test.YtlamhobkmknnpaaWatchB
namespace Go.Proofs.Ytlamhobkmknnpaa
open Go.RowKit Go.Maps Go.MapKept

def wl (m : List (Int × Int)) (id : Int) : Int := (mlook m id).getD 0
def lateS (c p : Int) (s : List Pr × List (Int × Int)) (id : Int) : List Pr × List (Int × Int) := if c - wl s.2 id < p then s else (chg s.1 id sus1, mdel s.2 id)
def lateL (c p : Int) (ks : List Int) (l : List Pr) (m : List (Int × Int)) : List Pr × List (Int × Int) := ks.foldl (lateS c p) (l, m)
theorem lateL_take {c p : Int} {ks : List Int} {l : List Pr} {m : List (Int × Int)} {k : Nat} (h : k < ks.length) : lateL c p (ks.take (k + 1)) l m = lateS c p (lateL c p (ks.take k) l m) (ks.getD k 0) := by
  unfold lateL
  rw [take_succ_get ks k h, List.foldl_append]; rfl
theorem wl_bd {m : List (Int × Int)} (h : ∀ e ∈ m, 0 ≤ e.1 ∧ e.1 ≤ 1000 ∧ 0 ≤ e.2 ∧ e.2 ≤ 1000000) (id : Int) : 0 ≤ wl m id ∧ wl m id ≤ 1000000 := by
  unfold wl mlook
  cases he : m.find? (fun p => p.1 == id) with
  | none => simp
  | some e =>
    have := h e (List.mem_of_find?_eq_some he)
    simp; omega
theorem mdel_mem {m : List (Int × Int)} {id : Int} {e : Int × Int} (h : e ∈ mdel m id) : e ∈ m := (List.mem_filter.1 h).1
theorem lateL_mem {c p : Int} : ∀ {ks : List Int} {l : List Pr} {m : List (Int × Int)}, ∀ e ∈ (lateL c p ks l m).2, e ∈ m
  | [], _, _, _, h => h
  | id :: ks, l, m, e, h => by
    have h1 := lateL_mem (c := c) (p := p) (ks := ks) (l := (lateS c p (l, m) id).1) (m := (lateS c p (l, m) id).2) e h
    unfold lateS at h1
    split at h1
    · exact h1
    · exact mdel_mem h1
theorem lateL_len {c p : Int} : ∀ {ks : List Int} {l : List Pr} {m : List (Int × Int)}, (lateL c p ks l m).1.length = l.length
  | [], _, _ => rfl
  | id :: ks, l, m => by
    have h1 := lateL_len (c := c) (p := p) (ks := ks) (l := (lateS c p (l, m) id).1) (m := (lateS c p (l, m) id).2)
    have h2 : (lateS c p (l, m) id).1.length = l.length := by
      unfold lateS; split
      · rfl
      · exact chg_len _ _ _
    exact h1.trans h2
theorem looks (W : World) (mb : Nat) (m : List (Int × Int)) (h : IMap encI W mb m) (id : Int) (hw : (Lit.int .i64 id).wf = true) : (Instr.lookup 45 (.map (some mb)) (.int .i64 id) false).run Try.prog W = .ok (.int .i64 (wl m id)) W := by
  have hlook := h.look (P := Try.prog) Try.underlying3 Try.underlying45 (zeroInt _) id hw false
  rw [hlook]
  unfold wl
  cases mlook m id <;> rfl
def Off (b mb : Nat) (v : Value) : Prop := ∀ k, v.rb = some k → k ≠ b ∧ k ≠ mb
theorem Off.own {w : World} {b mb base e size n : Nat} {v : Value} {xs : List Value} (h : w.ownsRow base e size v n xs) (hb : b < base) (hm : mb < base) : Off b mb v := fun k hk => by
  have := (h.lt k (rb_own hk)).1
  omega
/-- late's result. -/
def LateP (b mb : Nat) (vr : Value) (S : WS) (w : World) (r : List Pr × List (Int × Int)) (e : Ending) (w' : World) : Prop := ∃ v', e = .returned v' ∧ Peers w' v' r.1 ∧ Off b mb v' ∧ WAt w' b mb vr { S with waits := r.2 } ∧ Kept (W2 b mb) w w'
set_option maxRecDepth 8000 in
set_option maxHeartbeats 4000000 in
theorem late_any (b mb : Nat) (vr v : Value) (S : WS) (l : List Pr) (n : Nat) (w : World) (h : WAt w b mb vr S) (ho : WOk n S) (hn : n ≤ 1000) (hv : Peers w v l) (hoff : Off b mb v) (hl : l.length ≤ 1000) :
    Calls Try.prog 27 #[.pointer (some ⟨b, 0, none⟩), v] w (LateP b mb vr S w (lateL S.clock S.patience (srt (S.waits.map (·.1))) l S.waits)) := by
  have hwt := hid (wwaiting_any b mb vr S w h (by have := ho.len; omega))
  have hks : ∀ x ∈ srt (S.waits.map (·.1)), 0 ≤ x ∧ x ≤ 1000 := fun x hx => by
    have hx2 : x ∈ S.waits.map (·.1) := (List.mergeSort_perm _ _).mem_iff.1 hx
    obtain ⟨e, he, rfl⟩ := List.mem_map.1 hx2
    have := ho.waits e he
    exact ⟨this.1, this.2.1⟩
  have hbw := lt_of_block h.blk
  have hmw := h.map.lt
  have hc := ho.clock
  have hpt := ho.patience
  have Htake := hid (fun k (hk : k < (srt (S.waits.map (·.1))).length) => lateL_take (c := S.clock) (p := S.patience) (l := l) (m := S.waits) hk)
  have Hwl := hid (fun k id => wl_bd (m := (lateL S.clock S.patience ((srt (S.waits.map (·.1))).take k) l S.waits).2) (fun e he => ho.waits e (lateL_mem e he)) id)
  have Hlen := hid (fun k => lateL_len (c := S.clock) (p := S.patience) (ks := (srt (S.waits.map (·.1))).take k) (l := l) (m := S.waits))
  have hll : (srt (S.waits.map (·.1))).length ≤ 1000 := by rw [srt_len]; have := ho.len; simp; omega
  generalize srt (S.waits.map (·.1)) = ks at *
  obtain ⟨a, cap, rfl⟩ := hv.shape
  have Hks := hid hks
  have H := hid h
  have Hv := hid hv
  have Hoff := hid hoff
  clear h hv hoff hks ho
  go_enter Try.func27, Try.ntmps27
  go_wp2_with fail
  go_step3
  go_wp2_with fail
  go_step3
  go_wp2_with fail
  refine hwt.out.mono ?_
  rintro e w1 ⟨v1, rfl, hown, hp1⟩
  obtain ⟨a1, c1, rfl⟩ := own_shape_p hown
  have Hoff1 := hid (Off.own (b := b) (mb := mb) hown hbw hmw)
  have Hi := hid (Row.of_own hown)
  have Hp1 := hid hp1
  have H1 := hid (H.out.pure hp1)
  have Hv1 := hid (show Peers w1 (.slice a l.length cap) l from Row.pure Hv.out hp1)
  clear hown hp1
  go_wp2
  go_loopw [1, 6, 10] (fun o _ i wr => ∃ (k : Nat) (l' : List Pr) (m : List (Int × Int)), k ≤ ks.length ∧ i = .int .i64 k ∧ lateL S.clock S.patience (ks.take k) l S.waits = (l', m) ∧ Peers wr o l' ∧ Off b mb o ∧ WAt wr b mb vr { S with waits := m } ∧ Kept (W2 b mb) w1 wr) (fun _ _ i _ => ks.length - (RowKit.intOf i).toNat)
  case atStart => exact ⟨0, l, S.waits, Nat.zero_le _, rfl, rfl, Hv1.out, Hoff.out, H1.out, Kept.refl _ _⟩
  case round =>
    obtain ⟨k, l', m, hk, rfl, hL, hPe, hOf, hW, hKe⟩ := hrel
    have hlen := Hlen.out k
    rw [hL] at hlen
    dsimp only at hlen
    have hll' : l'.length ≤ 1000 := by omega
    clear hlen
    have hwlb := hid (fun id => show 0 ≤ wl m id ∧ wl m id ≤ 1000000 from by have := Hwl.out k id; rw [hL] at this; exact this)
    have HL := hid hL
    have HPe := hid hPe
    have HOf := hid hOf
    have HW := hid hW
    have HKe := hid hKe
    obtain ⟨a3, c3, rfl⟩ := hPe.shape
    clear hL hPe hOf hKe
    by_cases hlt : k < ks.length
    · have hlt' : (k : Int) < (ks.length : Int) := by omega
      have hkk : (0 : Int) ≤ (k : Int) := by omega
      obtain ⟨bi, oi, rfl, hbi, hci⟩ : ∃ bi oi, a1 = some ⟨bi, oi, none⟩ ∧ bi < wr.heap.size ∧ wr.cell? ⟨bi, oi + k, none⟩ = some (.int .i64 (ks.getD k 0)) := by
        obtain ⟨_, _, _, hc⟩ := Ints.cell (show Ints wr (.slice a1 ks.length c1) ks from Row.kept Hi.out HKe.out (fun j hj e => by
          have := Hoff1.out j hj
          rcases e with e | e
          · exact this.1 e
          · exact this.2 e))
        rcases hc with ⟨h0, _⟩ | ⟨bi, oi, e, hb, hcc⟩
        · rw [h0] at hlt; exact absurd hlt (Nat.not_lt_zero _)
        · exact ⟨bi, oi, e, hb, hcc k hlt⟩
      have hx := Hks.out (ks.getD k 0) (by simp [List.getD, hlt])
      have Hst := hid (Htake.out k hlt)
      generalize ks.getD k 0 = x at *
      have wx : (Lit.int .i64 x).wf = true := wf_i64 _ (by omega)
      have k2 : wr.cell? ⟨b, 2, none⟩ = some (.int .i64 S.patience) := cell_of_block hW.blk 2
      have k3 : wr.cell? ⟨b, 3, none⟩ = some (.int .i64 S.clock) := cell_of_block hW.blk 3
      have k5 : wr.cell? ⟨b, 5, none⟩ = some (.map (some mb)) := cell_of_block hW.blk 5
      have hlk : ∀ n, (Instr.lookup 45 (.map (some mb)) (.int .i64 x) false).run Try.prog (wr.drewN n) = .ok (.int .i64 (wl m x)) (wr.drewN n) := fun n => looks _ mb m (hW.map.pure (pure_drewN _ n)) x wx
      have hz := hwlb.out x
      rw [HL.out] at Hst
      have Hst2 : Hid (lateL S.clock S.patience (ks.take (k + 1)) l S.waits = if S.clock - wl m x < S.patience then (l', m) else (chg l' x sus1, mdel m x)) := Hst.out
      generalize wl m x = z at *
      have hwr : IntKind.i64.wrap (S.clock - z) = S.clock - z := IntWalk.i64_in _ (by omega)
      clear hW Hst
      by_cases hlate : S.clock - z < S.patience
      · have Hst3 := hid (show lateL S.clock S.patience (ks.take (k + 1)) l S.waits = (l', m) from by rw [Hst2.out, if_pos hlate])
        have hd : decide (S.clock - z < S.patience) = true := by simpa using hlate
        clear Hst2
        go_wp2_with fail
        go_quiet (fail)
        go_wp2
        go_roundw
        case rel => exact ⟨k + 1, l', m, by omega, by go_num, Hst3.out, Row.pure HPe.out (pure_drewN _ _), HOf.out, HW.out.pure (pure_drewN _ _), HKe.out.trans (pure_drewN _ _).kept⟩
        case measure => simp [RowKit.intOf]; omega
      · have Hst3 := hid (show lateL S.clock S.patience (ks.take (k + 1)) l S.waits = (chg l' x sus1, mdel m x) from by rw [Hst2.out, if_neg hlate])
        have hd : decide (S.clock - z < S.patience) = false := by simpa using hlate
        have hsu := hid (fun n => suspect_any _ l' x (wr.drewN n) (Row.pure HPe.out (pure_drewN _ n)) (by omega))
        clear Hst2 hlate
        go_wp2_with fail
        go_quiet (fail)
        go_wp2_with fail
        refine (hsu.out _).mono ?_
        rintro e w4 ⟨v4, rfl, hown4, hp4⟩
        have hwz := HKe.out.size
        have hwz1 := Hp1.out.size
        have HK4 := hid (HKe.out.trans (Pure.kept (Pure.then_ (pure_drewN _ _) hp4)))
        have HW4 := hid (HW.out.pure (Pure.then_ (pure_drewN _ _) hp4))
        have HOf4 := hid (Off.own (b := b) (mb := mb) hown4 (by simp; omega) (by simp; omega))
        have HPe4 := hid (show Peers w4 v4 (chg l' x sus1) from Row.of_own hown4)
        have q5 : w4.cell? ⟨b, 5, none⟩ = some (.map (some mb)) := cell_of_block HW4.out.blk 5
        obtain ⟨a4, c4, rfl⟩ := own_shape_p hown4
        have hl4 : (chg l' x sus1).length = l'.length := chg_len _ _ _
        clear hown4 hp4 hlk k2 k3 k5
        generalize chg l' x sus1 = lx at *
        have Hl4 := hid hl4
        clear hl4
        go_wp2_with (at_delete; refine wpList_del encI rfl _ _ 45 3 rfl 3 Try.underlying3 Try.underlying45 mb m rfl HW4.out.map x wx rfl ?_; intro w5 hm5 hg5)
        obtain ⟨hW5, hK5⟩ := HW4.out.turned hm5 hg5
        have HW5 := hid hW5
        have HK5 := hid (HK4.out.trans hK5)
        have HPe5 := hid (show Peers w5 (.slice a4 lx.length c4) lx from Row.kept HPe4.out hK5 (fun j hj e => by
          have := HOf4.out j hj
          rcases e with e | e
          · exact this.1 e
          · exact this.2 e))
        clear hW5 hK5 hm5 hg5
        go_wp2
        go_roundw
        case rel => exact ⟨k + 1, lx, mdel m x, by omega, by go_num, Hst3.out, HPe5.out, HOf4.out, HW5.out, HK5.out⟩
        case measure => simp [RowKit.intOf]; omega
    · have hlt' : ¬ (k : Int) < (ks.length : Int) := by omega
      have HR := hid (show lateL S.clock S.patience ks l S.waits = (l', m) from by have := HL.out; rw [List.take_of_length_le (by omega)] at this; exact this)
      clear hW
      go_wp2
      go_ret
      exact ⟨_, rfl, by rw [HR.out]; exact HPe.out, HOf.out, by rw [HR.out]; exact HW.out, (Pure.kept Hp1.out).trans (HKe.out.mono (fun _ _ h => h))⟩
end Go.Proofs.Ytlamhobkmknnpaa
