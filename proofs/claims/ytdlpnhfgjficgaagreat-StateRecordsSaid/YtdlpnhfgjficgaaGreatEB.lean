/- ref03's Read, Rises and ReadRow. -/
import Derived.Test.YtdlpnhfgjficgaaGreatEA
import Derived.Test.YtdlpnhfgjficgaaGreatMRg
namespace Go.Proofs.YtdlpnhfgjficgaaGreat
open Go.RowKit Go.Maps Go.Shelf Go.Sort

theorem RdK.tear {T : TypeId} {b : Nat} {s : RS} {w W : World} (h : RdK T b s w W) : RdK T b none w (W.setCell ⟨b, 1, none⟩ (.bool true)) := ⟨(h.r.tear h.k).1, (h.r.tear h.k).2⟩
theorem set2d {n : Nat} {W : World} {u0 u1 : Value} {T : TypeId} (h : W.heap[n]? = some (.cells #[u0, u1] T (0, 0))) (v0 v1 : Value) : ((W.setCell ⟨n, 0, none⟩ v0).setCell ⟨n, 1, none⟩ v1).heap[n]? = some (.cells #[v0, v1] T (0, 0)) := by
  have := block_setCell (block_setCell h 0 v0) 1 v1; simpa using this
set_option maxRecDepth 8000 in
set_option maxHeartbeats 2000000 in
theorem rdread_any (b : Nat) (s : RS) (w : World) (h : RdAt 98 b s w) :
    Calls Tryz.prog 112 #[.pointer (some ⟨b, 0, none⟩)] w (RdP 98 b (dv (rdDot s).1) (rdDot s).2 w) := by
  have hb := h.lt
  have hint := hid (fun s W (hW : RdAt 98 b s W) => rintr_any b s 1099511627776 W hW (by decide) (by decide))
  unfold RdP at hint ⊢
  have hd : rdDot s = match rdInt 1099511627776 (rdInt 1099511627776 s).2 with
    | (_, none) => ((0, 0), none)
    | (y, some r) => if dchk ((rdInt 1099511627776 s).1, y) then (((rdInt 1099511627776 s).1, y), some r) else ((0, 0), none) := rfl
  have hi1 := hid (hint.out s)
  have hi2 := hid (hint.out (rdInt 1099511627776 s).2)
  generalize rdDot s = R at *
  generalize rdInt 1099511627776 (rdInt 1099511627776 s).2 = N2 at *
  generalize rdInt 1099511627776 s = N1 at *
  obtain ⟨x, s1⟩ := N1
  obtain ⟨y, s2⟩ := N2
  dsimp only at hi1 hi2 hd
  have hchk := hid (fun W => rchk_any (x, y) W)
  unfold dv at hchk ⊢
  dsimp only at hchk ⊢
  have Hd := hid hd
  clear hd hint
  obtain ⟨wz, hwz⟩ : ∃ wz, wz = w.alloc (.cells #[.int .i64 0, .int .i64 0] 28) := ⟨_, rfl⟩
  have Hz := hid (show RdK 98 b s w wz from by rw [hwz]; exact (RdK.start h).alloc _)
  have Bz := hid (show wz.heap[w.heap.size]? = some (.cells #[.int .i64 0, .int .i64 0] 28 (0, 0)) from by rw [hwz]; exact block_alloc_new _ _)
  clear h
  go_enter Tryz.func112, Tryz.ntmps112
  go_wp2_with fail
  rw [← hwz]
  clear hwz
  refine (hi1.out wz Hz.out.r).mono ?_
  rintro e w1 ⟨rfl, hr1, hk1⟩
  have Z1 := hid (block_kept Bz.out hk1 (by omega))
  have hlt1 := hid (show w.heap.size < w1.heap.size from lt_of_block Z1.out)
  obtain ⟨v1, hv1⟩ : ∃ v1, v1 = w1.alloc (.cells #[.int .i64 x, .int .i64 0] 28) := ⟨_, rfl⟩
  have H1 := hid (show RdK 98 b s1 w v1 from by rw [hv1]; exact (Hz.out.next hr1 hk1).alloc _)
  have Y1 := hid (show v1.heap[w1.heap.size]? = some (.cells #[.int .i64 x, .int .i64 0] 28 (0, 0)) from by rw [hv1]; exact block_alloc_new _ _)
  have Q1 := hid (show v1.heap[w.heap.size]? = some (.cells #[.int .i64 0, .int .i64 0] 28 (0, 0)) from by rw [hv1]; exact block_alloc_old Z1.out _)
  clear hr1 hk1 Z1 Bz Hz hi1
  go_wp2_with fail
  rw [← hv1]
  clear hv1
  generalize w1.heap.size = n at *
  refine (hi2.out v1 H1.out.r).mono ?_
  rintro e w2 ⟨rfl, hr2, hk2⟩
  have Y2 := block_kept Y1.out hk2 (by have := hlt1.out; omega)
  have Q2 := block_kept Q1.out hk2 (by omega)
  have H2 := hid (H1.out.next hr2 hk2)
  have c1 := cell_of_block Y2 1
  have f1 := free_of_block Y2 1
  simp at c1
  obtain ⟨v2, hv2⟩ : ∃ v2, v2 = w2.setCell ⟨n, 1, none⟩ (.int .i64 y) := ⟨_, rfl⟩
  have Y3 := hid (show v2.heap[n]? = some (.cells #[.int .i64 x, .int .i64 y] 28 (0, 0)) from by rw [hv2]; have := block_setCell Y2 1 (.int .i64 y); simpa using this)
  have Q3 := hid (show v2.heap[w.heap.size]? = some (.cells #[.int .i64 0, .int .i64 0] 28 (0, 0)) from by rw [hv2]; exact block_setCell_other Q2 _ (by show ¬ n = _; have := hlt1.out; omega) _)
  have H3 := hid (show RdK 98 b s2 w v2 from by rw [hv2]; exact H2.out.set (by have := hlt1.out; omega) (by have := hlt1.out; omega) _)
  have y0 := cell_of_block Y3.out 0
  have y1 := cell_of_block Y3.out 1
  simp at y0 y1
  rw [hv2] at y0 y1
  clear hr2 hk2 Y1 Q1 H1 H2 hi2 Y2 Q2
  go_wp2_with fail
  rw [← hv2]
  clear hv2 c1 f1 y0 y1
  refine (hchk.out v2).mono ?_
  rintro e w4 ⟨rfl, hp4⟩
  have H4 := hid (H3.out.pure hp4)
  have Y4 := hid ((hp4.block _ (lt_of_block Y3.out)).trans Y3.out)
  have Q4 := hid ((hp4.block _ (lt_of_block Q3.out)).trans Q3.out)
  have hnb := hid (show n ≠ b ∧ w.heap.size < n from by have := hlt1.out; omega)
  obtain ⟨l, t, k0, k1, f0, f1, ht, -⟩ := H4.out.r.parts
  have a0 := cell_of_block Q4.out 0
  have a1 := cell_of_block Q4.out 1
  have a2 := free_of_block Q4.out 0
  have a3 := free_of_block Q4.out 1
  simp at a0 a1
  clear hp4 H3 Y3 Q3
  have Htorn := hid (show (s2 = none ∨ dchk (x, y) = false) → RdP 98 b (.agg #[.int .i64 R.1.1, .int .i64 R.1.2]) R.2 w (.returned (.agg #[.int .i64 0, .int .i64 0])) (((w4.setCell ⟨b, 1, none⟩ (.bool true)).setCell ⟨w.heap.size, 0, none⟩ (.int .i64 0)).setCell ⟨w.heap.size, 1, none⟩ (.int .i64 0)) ∧ (((w4.setCell ⟨b, 1, none⟩ (.bool true)).setCell ⟨w.heap.size, 0, none⟩ (.int .i64 0)).setCell ⟨w.heap.size, 1, none⟩ (.int .i64 0)).heap[w.heap.size]? = some (.cells #[.int .i64 0, .int .i64 0] 28 (0, 0)) from fun hc => by
    have HR : R = ((0, 0), none) := by
      rw [Hd.out]
      cases s2 with
      | none => rfl
      | some r =>
        rcases hc with h | h
        · cases h
        · show (if _ then _ else _) = _
          rw [h]; rfl
    have hT := H4.out.tear
    have hQ := block_setCell_other Q4.out (v := .bool true) (p := ⟨b, 1, none⟩) (by show ¬ b = _; omega)
    have hS := (hT.set (Nat.le_refl w.heap.size) (i := 0) (by omega) (.int .i64 0)).set (Nat.le_refl w.heap.size) (i := 1) (by omega) (.int .i64 0)
    rw [HR]
    exact ⟨⟨rfl, hS.r, hS.k⟩, set2d hQ _ _⟩)
  have Hgood := hid (show ∀ r, s2 = some r → dchk (x, y) = true → RdP 98 b (.agg #[.int .i64 R.1.1, .int .i64 R.1.2]) R.2 w (.returned (.agg #[.int .i64 x, .int .i64 y])) ((w4.setCell ⟨w.heap.size, 0, none⟩ (.int .i64 x)).setCell ⟨w.heap.size, 1, none⟩ (.int .i64 y)) ∧ ((w4.setCell ⟨w.heap.size, 0, none⟩ (.int .i64 x)).setCell ⟨w.heap.size, 1, none⟩ (.int .i64 y)).heap[w.heap.size]? = some (.cells #[.int .i64 x, .int .i64 y] 28 (0, 0)) from fun r hs hc => by
    subst hs
    have HR : R = ((x, y), some r) := by
      rw [Hd.out]
      show (if _ then _ else _) = _
      rw [hc]; rfl
    have hS := (H4.out.set (Nat.le_refl w.heap.size) (i := 0) (by omega) (.int .i64 x)).set (Nat.le_refl w.heap.size) (i := 1) (by omega) (.int .i64 y)
    rw [HR]
    exact ⟨⟨rfl, hS.r, hS.k⟩, set2d Q4.out _ _⟩)
  have hbn : ¬ b = w.heap.size := by omega
  cases hc : dchk (x, y) with
  | false =>
    obtain ⟨HT, HB⟩ := Htorn.out (.inr hc)
    have HT' := hid HT
    have HB' := hid HB
    clear hc HT HB
    go_wp2
    exact bodyPost_ret (v := .agg #[.int .i64 0, .int .i64 0]) (by simp [results, Tryz.results112, go_sem, cell_of_block HB'.out 0, cell_of_block HB'.out 1]) rfl HT'.out
  | true =>
    cases s2 with
    | none =>
      obtain ⟨HT, HB⟩ := Htorn.out (.inl rfl)
      have HT' := hid HT
      have HB' := hid HB
      have ht' : t = true := ht
      subst ht'
      clear hc HT HB ht
      go_wp2
      exact bodyPost_ret (v := .agg #[.int .i64 0, .int .i64 0]) (by simp [results, Tryz.results112, go_sem, cell_of_block HB'.out 0, cell_of_block HB'.out 1]) rfl HT'.out
    | some r =>
      obtain ⟨HT, HB⟩ := Hgood.out r rfl hc
      have HT' := hid HT
      have HB' := hid HB
      have ht' : t = false := ht
      subst ht'
      have z0 := cell_of_block Y4.out 0
      have z1 := cell_of_block Y4.out 1
      simp at z0 z1
      clear hc HT HB ht
      go_wp2
      exact bodyPost_ret (v := .agg #[.int .i64 x, .int .i64 y]) (by simp [results, Tryz.results112, go_sem, cell_of_block HB'.out 0, cell_of_block HB'.out 1]) rfl HT'.out
set_option maxRecDepth 8000 in
set_option maxHeartbeats 2000000 in
theorem rrises_any (v : Value) (l : List Dot) (w : World) (hr : Dots w v l) (hl : l.length ≤ 100000) :
    Calls Tryz.prog 200 #[v] w fun e w' => e = .returned (.bool (riseb l)) ∧ Pure w w' := by
  have HB := hid (show ∀ k, k < l.length → riseAt l k = false → riseb l = false from fun k h e => allB_false h e)
  have HE := hid (show ∀ k, l.length ≤ k → allB k (riseAt l) = true → k = 1 ∨ k = l.length → riseb l = true from fun k h1 h2 h3 => by
    unfold riseb
    rcases h3 with rfl | rfl
    · by_cases h0 : l.length = 0
      · rw [h0]; rfl
      · rwa [show l.length = 1 by omega]
    · exact h2)
  generalize riseb l = R at *
  obtain ⟨a, cap, rfl⟩ := hr.shape
  have Hr := hid hr
  have hless := hid (fun x y W => rless_any x y W)
  clear hr
  unfold dv at *
  go_enter Tryz.func200, Tryz.ntmps200
  go_wp2_with fail
  go_loopw [3] (fun i wr => ∃ k : Nat, 1 ≤ k ∧ (k = 1 ∨ k ≤ l.length) ∧ i = .int .i64 k ∧ allB k (riseAt l) = true ∧ Pure w wr) (fun i _ => l.length - (RowKit.intOf i).toNat)
  case atStart => exact ⟨1, by omega, .inl rfl, rfl, by show allB 1 (riseAt l) = true; rfl, Below.refl _ _⟩
  case round =>
    obtain ⟨k, hk1, hk, rfl, hal, hp⟩ := hrel
    have Hal := hid hal
    clear hal
    have Hp := hid hp
    by_cases hlt : k < l.length
    · have hlt' : (k : Int) < (l.length : Int) := by omega
      have Hrow := hid (show Dots wr (.slice a l.length cap) l from Row.pure Hr.out hp)
      obtain ⟨b, off, rfl, hb, x0, x1⟩ := Dots.get Hrow.out hlt
      obtain ⟨D, hD⟩ : ∃ D, D = dlt (l.getD (k - 1) (0, 0)) (l.getD k (0, 0)) := ⟨_, rfl⟩
      have Hno := hid (fun (e : D = false) => HB.out k hlt (by unfold riseAt; rw [decide_eq_false (by omega), ← hD, e]; rfl))
      have Hyes := hid (fun (e : D = true) => allB_next Hal.out (show riseAt l k = true from by unfold riseAt; rw [← hD, e, Bool.or_true]))
      have hsub : IntKind.i64.wrap ((k : Int) - 1) = ((k - 1 : Nat) : Int) := by rw [IntWalk.i64_in _ (by omega)]; omega
      have hsub2 : (k : Int) - 1 = ((k - 1 : Nat) : Int) := by omega
      have hlt2 : ((k - 1 : Nat) : Int) < (l.length : Int) := by omega
      obtain ⟨b', off', e', hb', y0, y1⟩ := Dots.get Hrow.out (show k - 1 < l.length by omega)
      cases e'
      have hn : (0 : Int) ≤ ((k - 1 : Nat) : Int) := by omega
      have hless2 := hid (fun W => hless.out (l.getD (k - 1) (0, 0)) (l.getD k (0, 0)) W)
      rw [← hD] at hless2
      clear hD
      generalize l.getD k (0, 0) = z at *
      generalize l.getD (k - 1) (0, 0) = y at *
      obtain ⟨z1, z2⟩ := z
      obtain ⟨q1, q2⟩ := y
      dsimp only at x0 x1 y0 y1 hless2
      have hS : Hid (∀ W, Pure wr W → (W.cell? ⟨b, off + (k - 1) * 2, none⟩ = some (.int .i64 q1) ∧ W.cell? ⟨b, off + (k - 1) * 2 + 1, none⟩ = some (.int .i64 q2) ∧ W.cell? ⟨b, off + k * 2, none⟩ = some (.int .i64 z1) ∧ W.cell? ⟨b, off + k * 2 + 1, none⟩ = some (.int .i64 z2) ∧ Pure wr W)) := fun W hW =>
        ⟨(hW.cell hb').trans y0, (hW.cell hb').trans y1, (hW.cell hb).trans x0, (hW.cell hb).trans x1, hW⟩
      have hst := hid (hS.out _ (Below.refl _ wr).drew)
      have hS2 : Hid (∀ W : World, (W.cell? ⟨b, off + (k - 1) * 2, none⟩ = some (.int .i64 q1) ∧ W.cell? ⟨b, off + (k - 1) * 2 + 1, none⟩ = some (.int .i64 q2) ∧ W.cell? ⟨b, off + k * 2, none⟩ = some (.int .i64 z1) ∧ W.cell? ⟨b, off + k * 2 + 1, none⟩ = some (.int .i64 z2) ∧ Pure wr W) → Pure wr W) := fun W h => h.2.2.2.2
      clear hp hb hb' y0 y1 x0 x1
      generalize hj : k - 1 = j at *
      have hwm : IntKind.i64.wrap (j : Int) = (j : Int) := IntWalk.i64_in _ (by omega)
      cases D
      case' false => have HR := hid (Hno.out rfl)
      case' true => have HR := hid (Hyes.out rfl)
      all_goals
        clear Hno Hyes
        go_wp2_with fail
        go_region_held3 (fun W => W.cell? ⟨b, off + j * 2, none⟩ = some (.int .i64 q1) ∧ W.cell? ⟨b, off + j * 2 + 1, none⟩ = some (.int .i64 q2) ∧ W.cell? ⟨b, off + k * 2, none⟩ = some (.int .i64 z1) ∧ W.cell? ⟨b, off + k * 2 + 1, none⟩ = some (.int .i64 z2) ∧ Pure wr W)
          (first | assumption | with_reducible exact hst.out | with_reducible exact hS.out _ (Pure.then_ (hS2.out _ (by assumption)) (by assumption)))
          ((go_at_call 163; (with_reducible refine (hless2.out _).mono ?_); rintro e w7 ⟨rfl, hp7⟩))
        have hx := hid (Hp.out.then_ (hS2.out w7 (by assumption)))
        clear hp7 hst hS hS2
      · go_wp2
        go_roundw
        case rel => exact ⟨k + 1, by omega, .inr (by omega), by go_num, HR.out, hx.out⟩
        case measure => simp [RowKit.intOf]; omega
      · go_wp2
        go_ret
        exact ⟨by rw [HR.out]; rfl, hx.out⟩
    · have hlt' : ¬ (k : Int) < (l.length : Int) := by omega
      clear hp
      have HR := hid (HE.out k (by omega) Hal.out (by omega))
      go_wp2
      go_ret
      exact ⟨by rw [HR.out]; rfl, Hp.out⟩
set_option maxRecDepth 8000 in
set_option maxHeartbeats 4000000 in
theorem rreadrow_any (b : Nat) (s : RS) (most : Int) (w : World) (h : RdAt 98 b s w) (hm0 : 0 ≤ most) (hm : most ≤ 100000) :
    Calls Tryz.prog 161 #[.pointer (some ⟨b, 0, none⟩), .int .i64 most] w (RdRowP 98 b (rdRow most s).1 (rdRow most s).2 w) := by
  have hi1 := hid (rintr_any b s most w h (by omega) hm0)
  have hbd := rdInt_bd most s
  have hz := rdInt_zero most s
  have Hr : Hid (rdRow most s = match rdItems rdDot (rdInt most s).1.toNat [] (rdInt most s).2 with
    | (_, none) => ([], none)
    | (l, some r) => if riseb l then (l, some r) else ([], none)) := (show _ = _ from rfl)
  have hread := hid (fun s W (hW : RdAt 98 b s W) => rdread_any b s W hW)
  have hrises := hid (fun v l W (hW : Dots W v l) hl => rrises_any v l W hW hl)
  have Hw := hid (show RdOwn dcells 2 28 98 b (.slice none 0 0) [] s w w from ⟨RdK.start h, World.ownsRow_nil _ _ _ _, h.lt⟩)
  unfold RdP at hi1 hread
  unfold dv at hread
  generalize rdRow most s = R at *
  generalize rdInt most s = N1 at *
  obtain ⟨x, s1⟩ := N1
  dsimp only at hi1 hbd Hr hz
  obtain ⟨n, rfl⟩ : ∃ n : Nat, x = n := ⟨x.toNat, by omega⟩
  have Hr2 := hid Hr.out
  rw [Int.toNat_natCast] at Hr2
  have Hst := hid (RdIn.start rdDot n s1 (fun e => by have := hz e; omega))
  obtain ⟨total, htot⟩ : ∃ t, t = rdItems rdDot n [] s1 := ⟨_, rfl⟩
  rw [← htot] at Hr2 Hst
  have hbn := hbd.2 hm0
  clear h hbd Hr htot hz
  go_enter Tryz.func161, Tryz.ntmps161
  go_wp2_with fail
  refine hi1.out.mono ?_
  rintro e w1 ⟨rfl, hr1, hk1⟩
  have H1 := hid (Hw.out.next hr1 hk1)
  clear hr1 hk1
  go_wp2_with fail
  go_loopw [6, 7] (fun v i wr => ∃ (k : Nat) (acc : List Dot) (s : RS), i = .int .i64 k ∧ k ≤ n ∧ acc.length = k ∧ RdOwn dcells 2 28 98 b v acc s w wr ∧ RdIn rdDot total (n - k) acc s) (fun _ i _ => n - (RowKit.intOf i).toNat)
  case atStart => exact ⟨0, [], s1, rfl, Nat.zero_le _, rfl, H1.out, Hst.out⟩
  case round =>
    obtain ⟨k, acc, s, rfl, hkn, hlen, hI, hin⟩ := hrel
    have HI := hid hI
    have Hin := hid hin
    have Hlen := hid hlen
    have hl100 : acc.length ≤ 100000 := by omega
    obtain ⟨a, c, rfl⟩ := own_shape_d hI.own
    obtain ⟨l0, t, q0, q1, g0, g1, ht, -⟩ := hI.r.r.parts
    clear hI hin hlen
    by_cases hlt : k < n ∧ s ≠ none
    · obtain ⟨hkn', hs⟩ := hlt
      have ht' : t = false := by rw [ht]; cases s; exact absurd rfl hs; rfl
      subst ht'
      have hlt' : (k : Int) < (n : Int) := by omega
      have Hstep := hid (RdIn.step (f := rdDot) (m := n - (k + 1)) rfl (by have := Hin.out; rw [show n - k = (n - (k + 1)) + 1 by omega] at this; exact this))
      have hrd := hid (hread.out s)
      generalize rdDot s = D at *
      obtain ⟨⟨d1, d2⟩, s2⟩ := D
      dsimp only at hrd Hstep
      clear ht hs
      go_wp2_with fail
      refine (hrd.out wr HI.out.r.r).mono ?_
      rintro e w2 ⟨rfl, hr2, hk2⟩
      have H2 := hid (HI.out.next hr2 hk2)
      have b4 : w.heap.size ≤ (w2.alloc (.cells #[.int .i64 d1, .int .i64 d2] 28)).heap.size := by have := H2.out.r.k.size; simp; omega
      clear hr2 hk2 q0 q1 g0 g1
      go_wp2_with (at_builtin; refine wpList_append_dots rfl _ _ rfl w.heap.size _ acc acc.length rfl (H2.out.own.alloc _) _ [(d1, d2)] 1 rfl (dots_lit w2 d1 d2) (by omega) b4 ?_)
      intro v3 w3 hown3 hg3
      have Hown3 := hid (show w3.ownsRow w.heap.size 28 2 v3 (acc ++ [(d1, d2)]).length (gvs dcells (acc ++ [(d1, d2)])) from by rw [List.length_append]; exact hown3)
      have H3 := hid ((H2.out.alloc _).grow hg3 Hown3.out)
      obtain ⟨a3, c3, rfl⟩ := own_shape_d hown3
      clear hown3 hg3 b4
      go_wp2
      go_roundw
      case rel => exact ⟨k + 1, acc ++ [(d1, d2)], s2, by go_num, by omega, by simp [Hlen.out], H3.out, Hstep.out⟩
      case measure => simp [RowKit.intOf]; omega
    · have hrs := hid (fun W (hW : Dots W (.slice a acc.length c) acc) => hrises.out _ acc W hW hl100)
      have hxx : (¬ (k : Int) < (n : Int)) ∨ ((k : Int) < (n : Int) ∧ t = true) := by
        by_cases h : k < n
        · right
          refine ⟨by omega, ?_⟩
          rw [ht]
          cases s
          · rfl
          · exact absurd ⟨h, by simp⟩ hlt
        · left; omega
      have Hout := hid (show (∃ r, s = some r ∧ R = if riseb acc then (acc, some r) else ([], none)) ∨ (s = none ∧ R = ([], none)) from by
        cases s with
        | none => exact .inr ⟨rfl, by rw [Hr2.out, show total = ([], none) from Hin.out]⟩
        | some r =>
          have hk : k = n := by
            by_cases h : k < n
            · exact absurd ⟨h, by simp⟩ hlt
            · omega
          subst hk
          have htt := RdIn.fin (show RdIn rdDot total 0 acc (some r) by have := Hin.out; rwa [Nat.sub_self] at this)
          exact .inl ⟨r, rfl, by rw [Hr2.out, htt]⟩)
      clear hlt ht Hin
      generalize riseb acc = V at *
      rcases hxx with hx | ⟨hx, rfl⟩
      all_goals
        go_wp2_with fail
        refine (hrs.out wr HI.out.row).mono ?_
        rintro e w3 ⟨rfl, hp3⟩
        have J3 := hid (HI.out.pure hp3)
        clear hp3 q0 q1 g0 g1
        obtain ⟨l1, t1, q0, q1, g0, g1, ht1, -⟩ := J3.out.r.r.parts
        have JT := hid (J3.out.r.tear)
        rcases Hout.out with ⟨r, hs, hR⟩ | ⟨hs, hR⟩
        · subst hs
          have e' : t1 = false := ht1
          subst e'
          have HR := hid hR
          clear hR ht1
          cases V
          · go_wp2
            go_ret
            exact ⟨_, rfl, by rw [HR.out]; exact Row.nil _ _, fun k hk => by simp [Value.rb] at hk, by rw [HR.out]; exact JT.out.r, JT.out.k⟩
          · go_wp2
            go_ret
            exact J3.out.done (by rw [HR.out]; rfl) (by rw [HR.out]; rfl)
        · subst hs
          have e' : t1 = true := ht1
          subst e'
          have HR := hid hR
          clear hR ht1
          cases V
          · go_wp2
            go_ret
            exact ⟨_, rfl, by rw [HR.out]; exact Row.nil _ _, fun k hk => by simp [Value.rb] at hk, by rw [HR.out]; exact JT.out.r, JT.out.k⟩
          · go_wp2
            go_ret
            exact J3.out.none_ (by rw [HR.out]) (by rw [HR.out])
end Go.Proofs.YtdlpnhfgjficgaaGreat
