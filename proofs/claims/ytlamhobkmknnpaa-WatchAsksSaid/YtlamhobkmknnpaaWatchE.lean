/- watch: again. -/
import Derived.Test.YtlamhobkmknnpaaWatchD
namespace Go.Proofs.Ytlamhobkmknnpaa
open Go.RowKit Go.Maps Go.MapKept Go.Sort Go.Shelf

def others (l : List Pr) (own : Int) : List Int := (mem l).filter fun x => !(x == own)
def rot (l : List Int) (draw : Int) : List Int := l.drop ((max draw 0).toNat % l.length) ++ l.take ((max draw 0).toNat % l.length)
def againL (S : WS) (l : List Pr) (draw : Int) : List Int :=
  if (S.round.filter fun x => decide (x ∈ others l S.own)) ≠ [] ∨ others l S.own = [] then S.round.filter fun x => decide (x ∈ others l S.own) else rot (others l S.own) draw

theorem again1_any (b bt : Nat) (own x : Int) (w : World) (k1 : w.cell? ⟨bt, 0, none⟩ = some (.pointer (some ⟨b, 0, none⟩))) (k2 : w.cell? ⟨b, 0, none⟩ = some (.int .i64 own)) :
    Calls Try.prog 38 #[.int .i64 x, .pointer (some ⟨bt, 0, none⟩)] w fun e w' => e = .returned (.bool (x == own)) ∧ ∃ q, w' = w.drewN q := by
  go_enter Try.func38, Try.ntmps38
  go_wp2
  go_ret
  exact ⟨rfl, 0, rfl⟩
theorem again2_any (bt : Nat) (v : Value) (O : List Int) (x : Int) (w : World) (k1 : w.cell? ⟨bt, 0, none⟩ = some v) (hO : Ints w v O) :
    Calls Try.prog 39 #[.int .i64 x, .pointer (some ⟨bt, 0, none⟩)] w fun e w' => e = .returned (.bool (!decide (x ∈ O))) ∧ ∃ q, w' = w.drewN q := by
  have hc := hid (contains_any v O x w hO)
  obtain ⟨a, cap, rfl⟩ := hO.shape
  clear hO
  go_enter Try.func39, Try.ntmps39
  go_wp2_with fail
  refine hc.out.mono ?_
  rintro e w' ⟨rfl, rfl⟩
  go_wp2
  go_ret
  exact ⟨rfl, 0, rfl⟩
def AgainP (w : World) (l : List Int) (e : Ending) (w' : World) : Prop := ∃ v', e = .returned v' ∧ w'.ownsRow w.heap.size 3 1 v' l.length (l.map (Value.int .i64)) ∧ Pure w w'
theorem sizeIntW (W : World) : (sizeOf 3).run Try.prog W = .ok 1 W := by kernel_rfl
set_option maxRecDepth 8000 in
set_option maxHeartbeats 4000000 in
theorem again_any (b mb : Nat) (vr v : Value) (S : WS) (l : List Pr) (n : Nat) (draw : Int) (w : World) (h : WAt w b mb vr S) (ho : WOk n S) (hv : Peers w v l) (hl : l.length ≤ 1000) (hwf : AllWf (mem l)) :
    Calls Try.prog 28 #[.pointer (some ⟨b, 0, none⟩), v, .int .i64 draw] w (AgainP w (againL S l draw)) := by
  have hbw := lt_of_block h.blk
  obtain ⟨wz, hwz⟩ : ∃ wz, wz = w.alloc (.cells #[.pointer (some ⟨b, 0, none⟩)] 29) := ⟨_, rfl⟩
  have Hpz := hid (show Pure w wz from by rw [hwz]; exact (Below.refl _ _).alloc (Nat.le_refl _) _)
  have hblk : wz.heap[w.heap.size]? = some (.cells #[.pointer (some ⟨b, 0, none⟩)] 29 (0, 0)) := by rw [hwz]; exact block_alloc_new _ _
  have hzs : wz.heap.size = w.heap.size + 1 := by rw [hwz]; simp
  have HZ := hid hzs
  have Hblk := hid hblk
  have Hz := hid hwz
  have hmemb := hid (vmembers_any v l wz (Row.pure hv Hpz.out) (by omega))
  have hml : (mem l).length ≤ 1000 := by
    unfold mem; rw [List.length_map]; exact Nat.le_trans (List.length_filter_le _ _) hl
  obtain ⟨a, cap, rfl⟩ := hv.shape
  have H := hid h
  have Hwf := hid hwf
  have hrl := ho.rlen
  have hrw : Hid (AllWf S.round) := hid (fun x hx => wf_i64 _ (by have := ho.round x hx; omega))
  clear h hv hwz hblk hzs ho hwf
  go_enter Try.func28, Try.ntmps28
  go_wp2_with fail
  rw [← Hz.out]
  refine hmemb.out.mono ?_
  rintro e w1 ⟨v1, rfl, hown1, hp1⟩
  have Hp1 := hid hp1
  have hz1 := hp1.size
  have hdel := hid (del_own wz.heap.size v1 (mem l) w1 hown1 (by omega) Hwf.out (fun x => x == S.own) 38 #[.pointer (some ⟨w.heap.size, 0, none⟩)] (enters_of Try.func38 (by kernel_rfl) rfl)
    (fun W x _ hW => by
      have e1 : W.heap[w.heap.size]? = _ := (hW w.heap.size (by have := HZ.out; omega) (fun e => own_ne hown1 (b := w.heap.size) (by have := HZ.out; omega) e.symm)).trans ((Hp1.out.block _ (lt_of_block Hblk.out)).trans Hblk.out)
      have e2 : W.heap[b]? = _ := (hW b (by have := HZ.out; omega) (fun e => own_ne hown1 (b := b) (by have := HZ.out; omega) e.symm)).trans ((Hp1.out.block _ (by have := HZ.out; omega)).trans ((Hpz.out.block _ hbw).trans H.out.blk))
      exact again1_any b w.heap.size S.own x W (cell_of_block e1 0) (cell_of_block e2 0)))
  obtain ⟨a1, c1, rfl⟩ := own_shape_p hown1
  have Hown1 := hid hown1
  clear hown1 hp1 hmemb
  go_wp2_with fail
  refine hdel.out.mono ?_
  rintro e w2 ⟨v2, rfl, hown2, hg2⟩
  have hown2 : w2.ownsRow wz.heap.size 3 1 v2 (others l S.own).length ((others l S.own).map (Value.int .i64)) := hown2
  have hol : (others l S.own).length ≤ 1000 := Nat.le_trans (List.length_filter_le _ _) hml
  have Hown0 := hid (show AllWf (others l S.own) from fun x hx => Hwf.out x (List.mem_filter.1 hx).1)
  have Hag := hid (show againL S l draw = if (S.round.filter fun x => decide (x ∈ others l S.own)) ≠ [] ∨ others l S.own = [] then S.round.filter fun x => decide (x ∈ others l S.own) else rot (others l S.own) draw from rfl)
  generalize others l S.own = O at *
  obtain ⟨a2, c2, rfl⟩ := own_shape_p hown2
  have Hp2 := hid (show Pure wz w2 from Hp1.out.grown hg2 Hp1.out.size (fun k hk => (Hown1.out.lt k hk).1))
  have Hown2 := hid hown2
  clear hown2 hg2 hdel Hown1
  obtain ⟨w3, hw3⟩ : ∃ w3, w3 = w2.alloc (.cells #[.slice a2 O.length c2] 23) := ⟨_, rfl⟩
  obtain ⟨X, hX⟩ : ∃ X, X = w2.heap.size := ⟨_, rfl⟩
  have Hp23 := hid (show Pure w2 w3 from by rw [hw3]; exact (Below.refl _ _).alloc (Nat.le_refl _) _)
  have hb3 : w3.heap[X]? = some (.cells #[.slice a2 O.length c2] 23 (0, 0)) := by rw [hw3, hX]; exact block_alloc_new _ _
  have HX := hid hX
  have Hw3 := hid hw3
  have Hp3 := hid (Hpz.out.then_ (Hp2.out.then_ Hp23.out))
  have HW3 := hid (H.out.pure Hp3.out)
  have Hown3 := hid (own_pure Hown2.out Hp23.out)
  have Hb3 := hid hb3
  have k6 : w3.cell? ⟨b, 6, none⟩ = some vr := cell_of_block HW3.out.blk 6
  have k3 : w3.cell? ⟨w.heap.size, 0, none⟩ = some (.pointer (some ⟨b, 0, none⟩)) := cell_of_block (((Hp2.out.then_ Hp23.out).block _ (lt_of_block Hblk.out)).trans Hblk.out) 0
  rw [hw3] at k6 k3
  have hcl := hid (clone_any vr S.round w3 HW3.out.rnd (by omega))
  obtain ⟨ar, cr, hvr⟩ := HW3.out.rnd.shape
  subst hvr
  clear hX hw3 hb3
  go_wp2_with fail
  rw [← Hw3.out, ← HX.out]
  refine hcl.out.mono ?_
  rintro e w4 ⟨v4, rfl, hown4, hp4⟩
  have Hp4 := hid hp4
  have Hb4 := hid ((hp4.block _ (lt_of_block Hb3.out)).trans Hb3.out)
  have hX4 := hid (lt_of_block Hb3.out)
  have hOrow := hid (Row.of_own Hown3.out)
  have hOlt : Hid (∀ k, (Value.slice a2 O.length c2).rb = some k → k < w3.heap.size) := hid (fun k hk => (Hown3.out.lt k (rb_own hk)).2)
  have hdel := hid (del_own w3.heap.size v4 S.round w4 hown4 (by omega) hrw.out (fun x => !decide (x ∈ O)) 39 #[.pointer (some ⟨X, 0, none⟩)] (enters_of Try.func39 (by kernel_rfl) rfl)
    (fun W x _ hW => by
      have e1 : W.heap[X]? = _ := (hW X (Nat.lt_of_lt_of_le hX4.out Hp4.out.size) (fun e => own_ne hown4 hX4.out e.symm)).trans Hb4.out
      refine again2_any X (.slice a2 O.length c2) O x W (cell_of_block e1 0) (Row.same (Row.pure hOrow.out Hp4.out) (fun k hk => hW k (Nat.lt_of_lt_of_le (hOlt.out k hk) Hp4.out.size) (fun e => own_ne hown4 (hOlt.out k hk) e.symm)))))
  obtain ⟨a4, c4, rfl⟩ := own_shape_p hown4
  have Hown4 := hid hown4
  clear hown4 hp4 hcl k6 k3
  go_wp2_with fail
  refine hdel.out.mono ?_
  rintro e w5 ⟨v5, rfl, hown5, hg5⟩
  have eF : (S.round.filter fun x => !(!decide (x ∈ O))) = S.round.filter fun x => decide (x ∈ O) := List.filter_congr (fun x _ => by simp)
  rw [eF] at hown5
  have hfl : (S.round.filter fun x => decide (x ∈ O)).length ≤ 1000 := Nat.le_trans (List.length_filter_le _ _) hrl
  generalize (S.round.filter fun x => decide (x ∈ O)) = F at *
  obtain ⟨a5, c5, rfl⟩ := own_shape_p hown5
  have Hp5 := hid (show Pure w3 w5 from Hp4.out.grown hg5 Hp4.out.size (fun k hk => (Hown4.out.lt k hk).1))
  have Hown5 := hid hown5
  have Hb5 := hid ((Hp5.out.block _ hX4.out).trans Hb3.out)
  have HpA := hid (Hp3.out.then_ Hp5.out)
  have x0 : w5.cell? ⟨X, 0, none⟩ = some (.slice a2 O.length c2) := cell_of_block Hb5.out 0
  have HO5 := hid (Row.pure hOrow.out Hp5.out)
  have Hw3s := hid (show w.heap.size ≤ w3.heap.size from Hp3.out.size)
  clear hown5 hg5 hdel eF
  by_cases hF : 0 < F.length
  · have hF' : (0 : Int) < (F.length : Int) := by omega
    have HA := hid (show againL S l draw = F from by rw [Hag.out, if_pos (.inl (by intro e; rw [e] at hF; simp at hF))])
    go_wp2
    go_ret
    exact ⟨_, rfl, by rw [HA.out]; exact own_mono Hown5.out Hw3s.out, HpA.out⟩
  · have hF' : ¬ (0 : Int) < (F.length : Int) := by omega
    have hF0 : F = [] := List.eq_nil_of_length_eq_zero (by omega)
    have HF0 := hid hF0
    clear hF0
    by_cases hO : O.length = 0
    · have hO' : ((O.length : Int) == 0) = true := by simp [hO]
      have hO0 : O = [] := List.eq_nil_of_length_eq_zero hO
      have HA := hid (show againL S l draw = F from by rw [Hag.out, if_pos (.inr hO0)])
      clear hO hO0
      go_wp2
      go_ret
      exact ⟨_, rfl, by rw [HA.out]; exact own_mono Hown5.out Hw3s.out, HpA.out⟩
    · have hO' : ((O.length : Int) == 0) = false := by simpa using hO
      have HA := hid (show againL S l draw = rot O draw from by rw [Hag.out, if_neg (fun h => h.elim (fun h => h HF0.out) (fun h => hO (by rw [h]; rfl)))])
      have hrot := hid (show rot O draw = O.drop ((max draw 0).toNat % O.length) ++ O.take ((max draw 0).toNat % O.length) from rfl)
      obtain ⟨at_, hat⟩ : ∃ q, q = (max draw 0).toNat % O.length := ⟨_, rfl⟩
      rw [← hat] at hrot
      have hatl : at_ < O.length := by rw [hat]; exact Nat.mod_lt _ (Nat.pos_of_ne_zero hO)
      have hmx : 0 ≤ max draw 0 := Int.le_max_right _ _
      have hem : (max draw 0) % (O.length : Int) = (at_ : Int) := by
        rw [hat, Int.natCast_emod, Int.toNat_of_nonneg hmx]
      have htm : (max draw 0).tmod (O.length : Int) = (at_ : Int) := by
        rw [Int.tmod_eq_emod_of_nonneg hmx, hem]
      clear hat hO
      have hpt : Hid ((a2 : Option Addr) = none ∨ ∃ b o, a2 = some ⟨b, o, none⟩) := by
        obtain ⟨_, ⟨e, _⟩ | ⟨g', cap', cur, e, _⟩⟩ := Hown2.out
        · injection e with e1 e2 e3
          exact .inl e1
        · injection e with e1 e2 e3
          exact .inr ⟨_, _, e1⟩
      obtain ⟨vs, hvs, his⟩ := slice_suf_row Try.underlying23 HO5.out (Nat.le_of_lt hatl) hpt.out sizeIntW
      obtain ⟨vp, hvp, hip⟩ := slice_pre_row Try.underlying23 HO5.out (Nat.le_of_lt hatl) hpt.out sizeIntW
      have hcc := hid (fun W (c1 : W.cell? ⟨w5.heap.size, 0, none⟩ = some vs) (c2 : W.cell? ⟨w5.heap.size, 1, none⟩ = some vp) (hW : Pure w5 W) (hlt : w5.heap.size < W.heap.size) =>
        concat2_any w5.heap.size 2 vs vp (O.drop at_) (O.take at_) W c1 c2
          (by have := his W (Row.pure HO5.out hW); unfold Ints; rw [List.length_drop, List.map_drop]; rw [Nat.mul_one] at this; exact this)
          (by have := hip W (Row.pure HO5.out hW); unfold Ints; rw [List.length_take, List.map_take, Nat.min_eq_left (Nat.le_of_lt hatl)]; rw [Nat.mul_one] at this; exact this)
          (by rw [List.length_drop]; omega) (by rw [List.length_take]; omega) hlt)
      obtain ⟨V, hV⟩ : ∃ V, V = Value.slice a2 O.length c2 := ⟨_, rfl⟩
      have HV := hid hV
      obtain ⟨sa, sc, hs⟩ := (his w5 HO5.out).shape
      obtain ⟨pa, pc, hp⟩ := (hip w5 HO5.out).shape
      subst hs
      subst hp
      clear his hip
      have hlen2 : (O.take at_).length = at_ := by rw [List.length_take]; omega
      go_wp2_with fail
      rw [← hV] at hvs hvp x0 ⊢
      clear hV hlen2
      have hcc2 := hid (show Calls _ _ _ _ _ from hcc.out (w5.alloc (.cells #[.slice sa (O.length - at_) sc, .slice pa at_ pc] 23)).drew
        (by show (w5.alloc _).cell? _ = _; rw [World.cell?_alloc_new]; simp) (by show (w5.alloc _).cell? _ = _; rw [World.cell?_alloc_new]; simp) ((Below.refl _ _).alloc (Nat.le_refl _) _).drew (by simp))
      go_region_with (go_at_call 41; (with_reducible refine hcc2.out.mono ?_); rintro e w7 ⟨v7, rfl, hown7, hp7⟩)
      all_goals
        have Hfin := hid (show AgainP w (againL S l draw) (.returned v7) w7 from ⟨_, rfl, by rw [HA.out, hrot.out]; exact own_mono hown7 (by have := Hp5.out.size; have := Hw3s.out; simp; omega), HpA.out.then_ (Pure.then_ (((Below.refl _ _).alloc (Nat.le_refl _) _).drew) hp7)⟩)
        clear hown7 hp7
        go_wp2
        go_ret
        exact Hfin.out
end Go.Proofs.Ytlamhobkmknnpaa
