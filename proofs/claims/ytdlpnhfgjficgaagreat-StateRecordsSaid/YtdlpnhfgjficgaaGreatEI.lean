/- ref07's Join; ref09's few and Join. -/
import Derived.Test.YtdlpnhfgjficgaaGreatEH
import Derived.Test.YtdlpnhfgjficgaaGreatMVc
namespace Go.Proofs.YtdlpnhfgjficgaaGreat
open Go.RowKit Go.Maps Go.Shelf

theorem ite_len {α : Type} (c : Prop) [Decidable c] (x : α) : (if c then ([] : List α) else [x]).length ≤ 1 := by split <;> simp
theorem twr_len1 (s : List UInt8) (n : Int) : ∀ l : List Tag, (twr s n true l).length ≤ l.length
  | [] => by simp [twr]
  | b :: l => by
    have ih := twr_len1 s n l
    have h1 := ite_len (b.1 = s) b
    unfold twr
    rw [List.length_append, List.length_append, Bool.true_or]
    simp only [Bool.not_true, Bool.false_and, Bool.false_eq_true, if_false, List.length_nil, List.length_cons]
    omega
theorem twr_len (s : List UInt8) (n : Int) : ∀ l : List Tag, (twr s n false l).length ≤ l.length + 1
  | [] => by simp [twr]
  | a :: l => by
    have h1 := twr_len s n l
    have h2 := twr_len1 s n l
    have h3 := ite_len (a.1 = s) a
    unfold twr
    cases tlt a.1 s
    · simp only [Bool.not_false, Bool.and_self, Bool.or_true, if_true, List.length_append, List.length_cons, List.length_nil]
      omega
    · simp only [Bool.not_true, Bool.and_false, Bool.or_false, Bool.false_eq_true, if_false, List.length_append, List.length_cons, List.length_nil]
      omega
theorem tstep_len (out : List Tag) (t : Tag) : (tstep out t).length ≤ out.length + 1 := by
  unfold tstep
  split
  · exact twr_len _ _ _
  · omega
set_option maxRecDepth 8000 in
set_option maxHeartbeats 4000000 in
theorem rtjoin_any (v u : Value) (l k : List Tag) (w : World) (hv : Tags w v l) (hu : Tags w u k) (hl : l.length ≤ 10000) (hk : k.length ≤ 10000) :
    Calls Tryz.prog 56 #[v, u] w fun e w' => ∃ v', e = .returned v' ∧ Tags w' v' ((tfold l k).take 100) ∧ (∀ j, v'.rb = some j → w.heap.size ≤ j) ∧ Pure w w' := by
  obtain ⟨a, cap, rfl⟩ := hv.shape
  obtain ⟨b0, cap0, rfl⟩ := hu.shape
  have Hv := hid hv
  have Hu := hid (fun W (hW : Pure w W) => (show Tags W (.slice b0 k.length cap0) k from Row.pure hu hW))
  have Hst := hid (show tfold l (k.take 0) = l from rfl)
  have Hstep := hid (fun j (hj : j < k.length) => (show tfold l (k.take (j + 1)) = tstep (tfold l (k.take j)) (k.getD j t0) from by
    unfold tfold
    rw [take_succ_g t0 k j hj, List.foldl_append]; rfl))
  have Hlen := hid (show ∀ j, j ≤ k.length → (tfold l (k.take j)).length ≤ l.length + j from fun j => by
    induction j with
    | zero => intro _; exact Nat.le_refl _
    | succ j ih =>
      intro hj
      have h1 := ih (by omega)
      have h2 := tstep_len (tfold l (k.take j)) (k.getD j t0)
      rw [← Hstep.out j (by omega)] at h2
      omega)
  clear hv hu
  go_enter Tryz.func56, Tryz.ntmps56
  go_wp2_with (at_builtin; refine wpList_append_tags rfl _ _ rfl w.heap.size _ [] 0 rfl (World.ownsRow_nil _ _ _ _) _ l l.length rfl Hv.out (by omega) (Nat.le_refl _) ?_)
  intro v1 w1 hown1 hg1
  have HP1 := hid (Below.grown (Below.refl _ w) hg1 (Nat.le_refl _) (fun k e => by cases e))
  have HO1 := hid (show w1.ownsRow w.heap.size 90 2 v1 l.length (gvs tcells l) from by simpa using hown1)
  clear hown1 hg1
  go_wp2
  go_loopw [5, 6] (fun o i wr => ∃ (j : Nat) (Y : List Tag), j ≤ k.length ∧ i = .int .i64 j ∧ Y = tfold l (k.take j) ∧ wr.ownsRow w.heap.size 90 2 o Y.length (gvs tcells Y) ∧ Pure w wr) (fun _ i _ => k.length - (RowKit.intOf i).toNat)
  case atStart => exact ⟨0, l, Nat.zero_le _, rfl, Hst.out.symm, HO1.out, HP1.out⟩
  case round =>
    obtain ⟨j, Y, hj, rfl, hY, hown, hp⟩ := hrel
    obtain ⟨a3, c3, rfl⟩ := own_shape_d hown
    have HO := hid hown
    have HP := hid hp
    have HY := hid hY
    have hYl : Y.length ≤ 20000 := by rw [hY]; have := Hlen.out j hj; omega
    clear hown hp hY
    by_cases hlt : j < k.length
    · have hlt' : (j : Int) < (k.length : Int) := by omega
      obtain ⟨b, off, rfl, hb, x0, x1⟩ := Tags.get (Hu.out wr HP.out) hlt
      have HN := hid (show tfold l (k.take (j + 1)) = if tnum Y (k.getD j t0).1 < (k.getD j t0).2 then twith Y (k.getD j t0).1 (k.getD j t0).2 else Y from by rw [Hstep.out j hlt, ← HY.out]; rfl)
      generalize k.getD j t0 = z at *
      obtain ⟨zs, zn⟩ := z
      dsimp only at x0 x1 HN
      have hnum := hid (fun W (hW : Pure wr W) => rtnum_any (.slice a3 Y.length c3) Y zs W (Row.pure (Row.of_own HO.out) hW) (by omega))
      have hwith0 := hid (fun W (hW : Pure wr W) => rtwith_any (.slice a3 Y.length c3) Y zs zn W (Row.pure (Row.of_own HO.out) hW) (by omega))
      unfold TagsF at hwith0
      have hS : Hid (∀ W, Pure wr W → (W.cell? ⟨b, off + j * 2, none⟩ = some (.string (bs zs)) ∧ W.cell? ⟨b, off + j * 2 + 1, none⟩ = some (.int .i64 zn) ∧ Pure wr W)) := fun W hW => ⟨(hW.cell hb).trans x0, (hW.cell hb).trans x1, hW⟩
      have hst := hid (hS.out wr.drew (Below.refl _ _).drew)
      have hS2 : Hid (∀ W : World, (W.cell? ⟨b, off + j * 2, none⟩ = some (.string (bs zs)) ∧ W.cell? ⟨b, off + j * 2 + 1, none⟩ = some (.int .i64 zn) ∧ Pure wr W) → Pure wr W) := fun W h => h.2.2
      generalize tnum Y zs = T at *
      have hwm : IntKind.i64.wrap (j : Int) = (j : Int) := IntWalk.i64_in _ (by omega)
      clear hb x0 x1
      by_cases hgt : T < zn
      · have hgt' : decide (zn > T) = true := decide_eq_true hgt
        have hgt2 : decide (T < zn) = true := decide_eq_true hgt
        have HR := hid (show tfold l (k.take (j + 1)) = twith Y zs zn from by rw [HN.out, if_pos hgt])
        go_wp2_with fail
        refine wp_region_held_drew (S := (fun W => W.cell? ⟨b, off + j * 2, none⟩ = some (.string (bs zs)) ∧ W.cell? ⟨b, off + j * 2 + 1, none⟩ = some (.int .i64 zn) ∧ Pure wr W)) (by kernel_rfl) ?_ (fun hHeld => ?_)
        · first | assumption | with_reducible exact hst.out | with_reducible exact hS.out _ hp7
        refine tkA 0 ?_
        refine tkA 1 ?_
        refine tkA 2 ?_
        refine tkA 3 ?_
        refine tkA 4 ?_
        refine tkA 5 ?_
        refine tkA 6 ?_
        refine tkA 7 ?_
        refine tkA 8 ?_
        refine tkA 9 ?_
        refine tkA 10 ?_
        refine wpAnyH_ready (rs := [11]) (by kernel_rfl) (by simp) ?_
        refine AllReadyH.cons rfl (fun K hK => ?_) AllReadyH.nil
        (try simp only [List.getElem_toArray, List.getElem_cons_succ, List.getElem_cons_zero])
        go_simp
        go_at_call 117; (with_reducible refine (hnum.out _ (hS2.out _ (by assumption))).mono ?_); rintro e w7 ⟨rfl, rfl⟩
        refine hK.out _ _ ?_ (fun hHeld => ?_)
        · first | assumption | with_reducible exact hst.out | with_reducible exact hS.out _ hp7
        clear hK K
        try simp only [Act.put, List.setIfInBounds_toArray, List.set_cons_zero, List.set_cons_succ, List.getElem_toArray, List.getElem_cons_succ, List.getElem_cons_zero]
        refine tkA 12 ?_
        refine wpAnyH_done (by kernel_rfl) ?_ _
        obtain ⟨w5, hw5⟩ : ∃ w5, w5 = wr.drew := ⟨_, rfl⟩
        have hp5 : Pure wr w5 := by rw [hw5]; exact (Below.refl _ _).drew
        rw [← hw5]
        clear hw5
        have hwith := hid (fun W (hW : Pure w5 W) => hwith0.out W (hp5.then_ hW))
        have hS5 : Hid (∀ W, Pure w5 W → (W.cell? ⟨b, off + j * 2, none⟩ = some (.string (bs zs)) ∧ W.cell? ⟨b, off + j * 2 + 1, none⟩ = some (.int .i64 zn) ∧ Pure w5 W)) := fun W hW => by
          obtain ⟨h1, h2, -⟩ := hS.out W (hp5.then_ hW)
          exact ⟨h1, h2, hW⟩
        have hst5 := hid (hS5.out w5.drew (Below.refl _ _).drew)
        have hS6 : Hid (∀ W : World, (W.cell? ⟨b, off + j * 2, none⟩ = some (.string (bs zs)) ∧ W.cell? ⟨b, off + j * 2 + 1, none⟩ = some (.int .i64 zn) ∧ Pure w5 W) → Pure w5 W) := fun W h => h.2.2
        have Hp5 := hid hp5
        clear hp5 hwith0 hst hS hS2
        go_wp2_with fail
        refine wp_region_held_drew (S := (fun W => W.cell? ⟨b, off + j * 2, none⟩ = some (.string (bs zs)) ∧ W.cell? ⟨b, off + j * 2 + 1, none⟩ = some (.int .i64 zn) ∧ Pure w5 W)) (by kernel_rfl) ?_ (fun hHeld => ?_)
        · first | assumption | with_reducible exact hst5.out | with_reducible exact hS5.out _ (Pure.then_ (hS6.out _ (by assumption)) hp7)
        refine tkA 0 ?_
        refine tkA 1 ?_
        refine tkA 2 ?_
        refine tkA 3 ?_
        refine tkA 4 ?_
        refine tkA 5 ?_
        refine tkA 6 ?_
        refine tkA 7 ?_
        refine tkA 8 ?_
        refine tkA 9 ?_
        refine tkA 10 ?_
        refine wpAnyH_ready (rs := [11]) (by kernel_rfl) (by simp) ?_
        refine AllReadyH.cons rfl (fun K hK => ?_) AllReadyH.nil
        (try simp only [List.getElem_toArray, List.getElem_cons_succ, List.getElem_cons_zero])
        go_simp
        go_at_call 118; (with_reducible refine (hwith.out _ (hS6.out _ (by assumption))).mono ?_); rintro e w7 ⟨v7, rfl, hown7, hp7⟩
        refine hK.out _ _ ?_ (fun hHeld => ?_)
        · first | assumption | with_reducible exact hst5.out | with_reducible exact hS5.out _ (Pure.then_ (hS6.out _ (by assumption)) hp7)
        clear hK K
        try simp only [Act.put, List.setIfInBounds_toArray, List.set_cons_zero, List.set_cons_succ, List.getElem_toArray, List.getElem_cons_succ, List.getElem_cons_zero]
        refine tkA 12 ?_
        refine wpAnyH_done (by kernel_rfl) ?_ _
        obtain ⟨a7, c7, rfl⟩ := own_shape_d hown7
        have HP7 := hid (HP.out.then_ (Hp5.out.then_ (hS6.out _ (by assumption))))
        have HO7 := hid (show w7.ownsRow w.heap.size 90 2 (.slice a7 (twith Y zs zn).length c7) (twith Y zs zn).length (gvs tcells (twith Y zs zn)) from own_mono hown7 (Nat.le_trans HP.out.size Hp5.out.size))
        clear hown7 hp7
        generalize twith Y zs zn = YY at *
        go_wp2
        go_roundw
        case rel => exact ⟨j + 1, YY, by omega, by go_num, HR.out.symm, HO7.out, HP7.out⟩
        case measure => simp [RowKit.intOf]; omega
      · have hgt' : decide (zn > T) = false := decide_eq_false hgt
        have hgt2 : decide (T < zn) = false := decide_eq_false hgt
        have HR := hid (show tfold l (k.take (j + 1)) = Y from by rw [HN.out, if_neg hgt])
        go_wp2_with fail
        refine wp_region_held_drew (S := (fun W => W.cell? ⟨b, off + j * 2, none⟩ = some (.string (bs zs)) ∧ W.cell? ⟨b, off + j * 2 + 1, none⟩ = some (.int .i64 zn) ∧ Pure wr W)) (by kernel_rfl) ?_ (fun hHeld => ?_)
        · first | assumption | with_reducible exact hst.out | with_reducible exact hS.out _ hp7
        refine tkA 0 ?_
        refine tkA 1 ?_
        refine tkA 2 ?_
        refine tkA 3 ?_
        refine tkA 4 ?_
        refine tkA 5 ?_
        refine tkA 6 ?_
        refine tkA 7 ?_
        refine tkA 8 ?_
        refine tkA 9 ?_
        refine tkA 10 ?_
        refine wpAnyH_ready (rs := [11]) (by kernel_rfl) (by simp) ?_
        refine AllReadyH.cons rfl (fun K hK => ?_) AllReadyH.nil
        (try simp only [List.getElem_toArray, List.getElem_cons_succ, List.getElem_cons_zero])
        go_simp
        go_at_call 117; (with_reducible refine (hnum.out _ (hS2.out _ (by assumption))).mono ?_); rintro e w7 ⟨rfl, rfl⟩
        refine hK.out _ _ ?_ (fun hHeld => ?_)
        · first | assumption | with_reducible exact hst.out | with_reducible exact hS.out _ hp7
        clear hK K
        try simp only [Act.put, List.setIfInBounds_toArray, List.set_cons_zero, List.set_cons_succ, List.getElem_toArray, List.getElem_cons_succ, List.getElem_cons_zero]
        refine tkA 12 ?_
        refine wpAnyH_done (by kernel_rfl) ?_ _
        go_wp2
        go_roundw
        case rel => exact ⟨j + 1, Y, by omega, by go_num, HR.out.symm, own_pure HO.out (Below.refl _ _).drew, HP.out.then_ (Below.refl _ _).drew⟩
        case measure => simp [RowKit.intOf]; omega
    · obtain rfl : j = k.length := by omega
      have hlt' : ¬ (k.length : Int) < (k.length : Int) := by omega
      have HT := hid (show Y = tfold l k from by rw [HY.out, List.take_length])
      by_cases h100 : Y.length ≤ 100
      · have h1 : ¬ (Y.length : Int) > 100 := by omega
        have HR := hid (show Y = (tfold l k).take 100 from by rw [← HT.out, List.take_of_length_le h100])
        have Hfr := hid (fun (i : Nat) (hi : (Value.slice a3 Y.length c3).rb = some i) => (HO.out.lt i (rb_own hi)).1)
        go_wp2
        go_ret
        exact ⟨_, rfl, by rw [← HR.out]; exact Row.of_own HO.out, Hfr.out, HP.out⟩
      · have h1 : (Y.length : Int) > 100 := by omega
        obtain ⟨hV, hVr⟩ := slice_pre_eq (P := Tryz.prog) Tryz.underlying49 (Row.of_own HO.out) (k := 100) (by omega) (by rcases own_plain_d HO.out with ⟨p, c, e, h⟩; injection e with e1 e2 e3; subst e1; exact h) sizeTag
        have HVr := hid (show Tags wr (.slice a3 100 c3) ((tfold l k).take 100) from by
          have := hVr wr (Row.of_own HO.out)
          rw [gvs_take tenc] at this
          rw [← HT.out]
          have e2 : (Y.take 100).length = 100 := by rw [List.length_take]; omega
          show Row wr (.slice a3 100 c3) (Y.take 100).length 2 _
          rw [e2]
          exact this)
        have Hf := hid (show ∀ i, (Value.slice a3 100 c3).rb = some i → w.heap.size ≤ i from fun i hi => (HO.out.lt i (by
          unfold Value.rb at hi
          unfold Value.ownBlock
          cases a3 with
          | none => cases hi
          | some ad => dsimp only at hi ⊢; split at hi <;> simp_all)).1)
        have hle : 100 ≤ c3 := by
          obtain ⟨_, a', c', e, h1, _⟩ := Row.of_own HO.out
          cases e; omega
        clear hVr
        go_wp2
        go_ret
        exact ⟨_, rfl, HVr.out, Hf.out, HP.out⟩
set_option maxRecDepth 8000 in
set_option maxHeartbeats 2000000 in
theorem rfew_any (v : Value) (l : List Pr) (w : World) (hr : Peers w v l) (hv : ∃ a n c, v = .slice a n c ∧ (a = none ∨ ∃ b o, a = some ⟨b, o, none⟩)) :
    Calls Tryz.prog 121 #[v] w fun e w' => ∃ v', e = .returned v' ∧ Peers w v' (l.take 64) ∧ (∀ j, v'.rb = some j → v.rb = some j) ∧ w = w' := by
  obtain ⟨a, cap, rfl⟩ := hr.shape
  by_cases h64 : l.length ≤ 64
  · refine (few_small _ l w hr h64).mono ?_
    rintro e w' ⟨rfl, rfl⟩
    exact ⟨_, rfl, by rw [List.take_of_length_le h64]; exact hr, fun j hj => hj, rfl⟩
  · have h1 : (l.length : Int) > 64 := by omega
    obtain ⟨hV, hVr⟩ := slice_pre_eq (P := Tryz.prog) Tryz.underlying50 hr (k := 64) (by omega) (by
      obtain ⟨a', n', c', e, h⟩ := hv
      injection e with e1 e2 e3
      subst e1; exact h) sizePeer
    have HVr := hid (show Peers w (.slice a 64 cap) (l.take 64) from by
      have := hVr w hr
      rw [pvs_take] at this
      have e2 : (l.take 64).length = 64 := by rw [List.length_take]; omega
      unfold Peers
      rw [e2]
      exact this)
    have Hf := hid (show ∀ i, (Value.slice a 64 cap).rb = some i → (Value.slice a l.length cap).rb = some i from fun i hi => by cases a <;> simp_all [Value.rb])
    have hle : 64 ≤ cap := by
      obtain ⟨_, a', c', e, h1, _⟩ := hr
      cases e; omega
    clear hVr hr hv
    go_enter Tryz.func121, Tryz.ntmps121
    go_wp2
    go_ret
    exact ⟨_, rfl, HVr.out, Hf.out, rfl⟩
theorem vfold_step (a l : List Pr) (k : Nat) (h : k < l.length) : vfold a (l.take (k + 1)) = pins (l.getD k p0) (vfold a (l.take k)) := by
  unfold vfold
  rw [take_succ_g p0 l k h, List.foldl_append]; rfl
set_option maxRecDepth 8000 in
set_option maxHeartbeats 4000000 in
theorem rvjoin_any (v u : Value) (l k : List Pr) (w : World) (hv : Peers w v l) (hu : Peers w u k) (hl : VV l) (hk : VV k) :
    Calls Tryz.prog 58 #[v, u] w fun e w' => ∃ v', e = .returned v' ∧ Peers w' v' (vjoin l k) ∧ (∀ j, v'.rb = some j → v.rb = some j ∨ w.heap.size ≤ j) ∧ Pure w w' := by
  obtain ⟨b0, cap0, rfl⟩ := hu.shape
  have Hu := hid (fun W (hW : Pure w W) => (show Peers W (.slice b0 k.length cap0) k from Row.pure hu hW))
  have Hv := hid hv
  have hlk := hk.n
  have hll := hl.n
  have Hst := hid (show vfold l (k.take 0) = l from rfl)
  have Hstep := hid (fun j (hj : j < k.length) => vfold_step l k j hj)
  have Hlen := hid (fun j => vfold_len (k.take j) l)
  have HVS := hid (fun j => (vfold_spec (k.take j) l hl.r (KS.take hk.r j)).1)
  have Hfin := hid (show vjoin l k = (vfold l k).take 64 from rfl)
  have Hs64 := hid (show l.take 64 = l from List.take_of_length_le hll)
  clear hv hu
  go_enter Tryz.func58, Tryz.ntmps58
  go_wp2
  go_loopw [5, 6] (fun o i wr => ∃ (j : Nat) (Y : List Pr), j ≤ k.length ∧ i = .int .i64 j ∧ Y = vfold l (k.take j) ∧ ((j = 0 ∧ o = v) ∨ wr.ownsRow w.heap.size 92 3 o Y.length (pvs Y)) ∧ Peers wr o Y ∧ Pure w wr) (fun _ i _ => k.length - (RowKit.intOf i).toNat)
  case atStart => exact ⟨0, l, Nat.zero_le _, rfl, Hst.out.symm, .inl ⟨rfl, rfl⟩, Hv.out, Below.refl _ _⟩
  case round =>
    obtain ⟨j, Y, hj, rfl, hY, ho, hpe, hp⟩ := hrel
    have HO := hid ho
    have HPe := hid hpe
    have HP := hid hp
    have HY := hid hY
    have hYl : Y.length ≤ 200 := by rw [hY]; have := Hlen.out j; have := List.length_take_le j k; omega
    obtain ⟨a3, c3, rfl⟩ := Row.shape hpe
    clear ho hpe hp hY
    by_cases hlt : j < k.length
    · have hlt' : (j : Int) < (k.length : Int) := by omega
      obtain ⟨b, off, rfl, hb, x0, x1, x2⟩ := Peers.get (Hu.out wr HP.out) hlt
      have HN := hid (show vfold l (k.take (j + 1)) = pput Y (k.getD j p0) from by rw [Hstep.out j hlt, ← HY.out, pput_ins (by rw [HY.out]; exact HVS.out j)])
      have hput := hid (rvput_any (.slice a3 Y.length c3) Y (k.getD j p0) wr HPe.out (by omega))
      generalize k.getD j p0 = z at *
      obtain ⟨z0, z1, z2⟩ := z
      unfold VPutP pv at hput
      dsimp only at x0 x1 x2 hput
      clear hb
      generalize pput Y (⟨z0, z1, z2⟩ : Pr) = YY at *
      go_wp2_with fail
      refine hput.out.mono ?_
      rintro e w7 ⟨v7, rfl, hown7, hp7⟩
      obtain ⟨a7, c7, rfl⟩ := own_shape_d hown7
      have HO7 := hid (own_mono hown7 HP.out.size)
      have HP7 := hid (HP.out.then_ hp7)
      clear hown7 hp7 x0 x1 x2
      go_wp2
      go_roundw
      case rel => exact ⟨j + 1, YY, by omega, by go_num, HN.out.symm, .inr HO7.out, Row.of_own HO7.out, HP7.out⟩
      case measure => simp [RowKit.intOf]; omega
    · obtain rfl : j = k.length := by omega
      have hlt' : ¬ (k.length : Int) < (k.length : Int) := by omega
      have HT := hid (show Y.take 64 = vjoin l k from by rw [Hfin.out, HY.out, List.take_length])
      rcases HO.out with ⟨h0, hv⟩ | hown
      · have hY2 : Y.length ≤ 64 := by
          have := HY.out
          rw [h0, Hst.out] at this
          rw [this]; exact hll
        have hfew := hid (few_small (.slice a3 Y.length c3) Y wr HPe.out hY2)
        have HR := hid (show Y = vjoin l k from by rw [← HT.out, List.take_of_length_le hY2])
        have Hvv := hid hv
        clear h0 hv
        go_wp2_with fail
        refine hfew.out.mono ?_
        rintro e w7 ⟨rfl, rfl⟩
        go_wp2
        go_ret
        exact ⟨_, rfl, by rw [← HR.out]; exact HPe.out, fun j hj => .inl (by rw [← Hvv.out]; exact hj), HP.out⟩
      · have hfew := hid (rfew_any (.slice a3 Y.length c3) Y wr HPe.out ⟨_, _, _, rfl, by rcases own_plain_d hown with ⟨p, c, e, h⟩; injection e with e1 e2 e3; subst e1; exact h⟩)
        have Hfr := hid (fun (i : Nat) (hi : (Value.slice a3 Y.length c3).rb = some i) => (hown.lt i (rb_own hi)).1)
        clear hown
        generalize Y.take 64 = Z at *
        go_wp2_with fail
        refine hfew.out.mono ?_
        rintro e w7 ⟨v7, rfl, hpe7, hrb7, rfl⟩
        obtain ⟨a7, c7, rfl⟩ := Row.shape hpe7
        have HPe7 := hid hpe7
        have Hrb7 := hid hrb7
        clear hpe7 hrb7
        go_wp2
        go_ret
        exact ⟨_, rfl, by rw [← HT.out]; exact HPe7.out, fun j hj => .inr (Hfr.out j (Hrb7.out j hj)), HP.out⟩
end Go.Proofs.YtdlpnhfgjficgaaGreat
