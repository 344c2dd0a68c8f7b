/- ref05's Read. -/
import Derived.Test.YtdlpnhfgjficgaaGreatED
namespace Go.Proofs.YtdlpnhfgjficgaaGreat
open Go.RowKit Go.Maps Go.Shelf Go.Sort

theorem RbW.tear {T : TypeId} {b nr nb : Nat} {X : List Dot × List Dot} {x1 x2 v : Value} {acc : List Msg} {s : RS} {w W : World} (h : RbW T b nr nb X x1 x2 v acc s w W) : RbW T b nr nb X x1 x2 v acc none w (W.setCell ⟨b, 1, none⟩ (.bool true)) :=
  h.next (h.r.r.tear (Kept.refl (fun k => k = b) W)).1 (h.r.r.tear (Kept.refl (fun k => k = b) W)).2
set_option maxRecDepth 8000 in
set_option maxHeartbeats 4000000 in
theorem rbread_any (b : Nat) (s : RS) (w : World) (h : RdAt 98 b s w) :
    Calls Tryz.prog 53 #[.pointer (some ⟨b, 0, none⟩)] w (RdBagP 98 b (rdBag s).1 (rdBag s).2 w) := by
  have hb := h.lt
  have Hb := hid hb
  have hctx := hid (fun s W (hW : RdAt 98 b s W) => rcread_any b s W hW)
  have hint := hid (fun s W (hW : RdAt 98 b s W) => rintr_any b s 1000 W hW (by decide) (by decide))
  have hcnt := hid (fun s W (hW : RdAt 98 b s W) => rintr_any b s 1048576 W hW (by decide) (by decide))
  have htext := hid (fun s W (hW : RdAt 98 b s W) => rtextr_any b s 1000 W hW (by decide) (by decide))
  have hdot := hid (fun s W (hW : RdAt 98 b s W) => rdread_any b s W hW)
  have hchk := hid (fun v0 v1 v2 g W hr l0 l1 l2 => rbchk_any v0 v1 v2 g W hr l0 l1 l2)
  unfold RdP at hint hcnt htext hdot
  unfold dv at hdot
  unfold RdCtxP at hctx
  have Hd : Hid (rdBag s = match rdItems rdMsg (rdInt 1000 (rdCtx s).2).1.toNat [] (rdInt 1000 (rdCtx s).2).2 with
    | (_, none) => (([], [], []), none)
    | (l, some r) => if bchk (l, (rdCtx s).1) then ((l, (rdCtx s).1), some r) else (([], [], []), none)) := (show _ = _ from rfl)
  have hl := rdCtx_len s
  have hbd := rdInt_bd 1000 (rdCtx s).2
  have hz := rdInt_zero 1000 (rdCtx s).2
  have hi1 := hid (hctx.out s)
  have hi2 := hid (hint.out (rdCtx s).2)
  generalize rdBag s = R at *
  generalize rdInt 1000 (rdCtx s).2 = N2 at *
  generalize rdCtx s = N1 at *
  obtain ⟨⟨B, C⟩, s1⟩ := N1
  obtain ⟨x, s2⟩ := N2
  dsimp only at hi1 hi2 Hd hl hbd hz
  obtain ⟨n, rfl⟩ : ∃ n : Nat, x = n := ⟨x.toNat, by omega⟩
  have Hr2 := hid Hd.out
  rw [Int.toNat_natCast] at Hr2
  obtain ⟨total, htot⟩ : ∃ t, t = rdItems rdMsg n [] s2 := ⟨_, rfl⟩
  have Hst := hid (RdIn.start rdMsg n s2 (fun e => by have := hz e; omega))
  rw [← htot] at Hr2 Hst
  have hbn := hbd.2 (by omega)
  have Hl := hid hl
  clear hctx hint hbd Hd hl
  obtain ⟨wz, hwz⟩ : ∃ wz, wz = w.alloc (.cells #[.slice none 0 0, .slice none 0 0, .slice none 0 0] 34) := ⟨_, rfl⟩
  have Hz := hid (show RdK 98 b s w wz from by rw [hwz]; exact (RdK.start h).alloc _)
  have Bz := hid (show wz.heap[w.heap.size]? = some (.cells #[.slice none 0 0, .slice none 0 0, .slice none 0 0] 34 (0, 0)) from by rw [hwz]; exact block_alloc_new _ _)
  have Sz := hid (show wz.heap.size = w.heap.size + 1 from by rw [hwz]; simp)
  clear h
  go_enter Tryz.func53, Tryz.ntmps53
  go_wp2_with fail
  rw [← hwz]
  clear hwz
  refine (hi1.out wz Hz.out.r).mono ?_
  rintro e w1 ⟨x1, x2, rfl, hcr, hf1, hf2, hr1, hk1⟩
  obtain ⟨a1, c1, rfl⟩ := hcr.1.shape
  obtain ⟨a2, c2, rfl⟩ := hcr.2.shape
  have hs1 := hk1.size
  have hsz := Sz.out
  have G1 := hid (show ∀ k, (Value.slice a1 B.length c1).rb = some k → w.heap.size < k ∧ k < w1.heap.size from fun k hk => by have := hf1 k hk; have := Row.lt hcr.1 k hk; omega)
  have G2 := hid (show ∀ k, (Value.slice a2 C.length c2).rb = some k → w.heap.size < k ∧ k < w1.heap.size from fun k hk => by have := hf2 k hk; have := Row.lt hcr.2 k hk; omega)
  obtain ⟨v1, hv1⟩ : ∃ v1, v1 = w1.alloc (.cells #[.slice none 0 0, .slice a1 B.length c1, .slice a2 C.length c2] 34) := ⟨_, rfl⟩
  have H1 := hid (show RbW 98 b w.heap.size w1.heap.size (B, C) (.slice a1 B.length c1) (.slice a2 C.length c2) (.slice none 0 0) [] s1 w v1 from by
    have hr := (Hz.out.next hr1 hk1).alloc (.cells #[.slice none 0 0, .slice a1 B.length c1, .slice a2 C.length c2] 34)
    rw [← hv1] at hr
    exact ⟨hr, by rw [hv1]; exact block_alloc_new _ _, by rw [hv1]; exact block_alloc_old (block_kept Bz.out hk1 (by omega)) _, World.ownsRow_nil _ _ _ _, by rw [hv1]; exact hcr.pure ((Below.refl _ _).alloc (Nat.le_refl _) _), hb, rfl, by omega, G1.out, G2.out⟩)
  clear hr1 hk1 hcr hf1 hf2 hs1 hsz Bz Hz hi1
  go_wp2_with fail
  rw [← hv1]
  clear hv1
  generalize w1.heap.size = nb at *
  refine (hi2.out v1 H1.out.r.r).mono ?_
  rintro e w2 ⟨rfl, hr2, hk2⟩
  have H2 := hid (H1.out.next hr2 hk2)
  clear hr2 hk2 H1 hi2
  go_wp2_with fail
  clear htot hz
  go_loopw [5] (fun i wr => ∃ (k : Nat) (v : Value) (acc : List Msg) (s : RS), i = .int .i64 k ∧ k ≤ n ∧ acc.length = k ∧ RbW 98 b w.heap.size nb (B, C) (.slice a1 B.length c1) (.slice a2 C.length c2) v acc s w wr ∧ RdIn rdMsg total (n - k) acc s) (fun i _ => n - (RowKit.intOf i).toNat)
  case atStart => exact ⟨0, _, [], s2, rfl, Nat.zero_le _, rfl, H2.out, Hst.out⟩
  case round =>
      obtain ⟨k, v, acc, s, rfl, hkn, hlen, hI, hin⟩ := hrel
      have HI := hid hI
      have Hin := hid hin
      have Hlen := hid hlen
      have hl1000 : acc.length ≤ 1000 := by omega
      obtain ⟨a, c, rfl⟩ := own_shape_d hI.own
      obtain ⟨l0, t, p0, p1, q0, q1, ht, -⟩ := hI.r.r.parts
      clear hI hin hlen
      by_cases hlt : k < n ∧ s ≠ none
      · obtain ⟨hkn', hs⟩ := hlt
        have ht' : t = false := by rw [ht]; cases s; exact absurd rfl hs; rfl
        subst ht'
        have hlt' : (k : Int) < (n : Int) := by omega
        have Hstep := hid (RdIn.step (f := rdMsg) (m := n - (k + 1)) rfl (by have := Hin.out; rw [show n - k = (n - (k + 1)) + 1 by omega] at this; exact this))
        clear ht hs
        have hM : rdMsg s = (((rdDot s).1, (rdText 1000 (rdDot s).2).1, (rdText 1000 (rdText 1000 (rdDot s).2).2).1, (rdInt 1048576 (rdText 1000 (rdText 1000 (rdDot s).2).2).2).1), (rdInt 1048576 (rdText 1000 (rdText 1000 (rdDot s).2).2).2).2) := rfl
        have h1 := hid (hdot.out s)
        have h2 := hid (htext.out (rdDot s).2)
        have h3 := hid (htext.out (rdText 1000 (rdDot s).2).2)
        have h4 := hid (hcnt.out (rdText 1000 (rdText 1000 (rdDot s).2).2).2)
        rw [hM] at Hstep
        clear hM
        generalize rdInt 1048576 (rdText 1000 (rdText 1000 (rdDot s).2).2).2 = N4 at *
        generalize rdText 1000 (rdText 1000 (rdDot s).2).2 = N3 at *
        generalize rdText 1000 (rdDot s).2 = N2 at *
        generalize rdDot s = N1 at *
        obtain ⟨⟨d1, d2⟩, t1⟩ := N1
        obtain ⟨q, t2⟩ := N2
        obtain ⟨p, t3⟩ := N3
        obtain ⟨ct, t4⟩ := N4
        dsimp only at h1 h2 h3 h4 Hstep
        go_wp2_with fail
        refine (h1.out wr HI.out.r.r).mono ?_
        clear p0 p1 q0 q1
        rintro e w3 ⟨rfl, hr3, hk3⟩
        have I3 := hid (HI.out.next hr3 hk3)
        obtain ⟨y3, hy3⟩ : ∃ y3, y3 = w3.alloc (.cells #[.int .i64 d1, .int .i64 d2, .string ⟨#[]⟩, .string ⟨#[]⟩, .int .i64 0] 43) := ⟨_, rfl⟩
        have J3 := hid (show RbW 98 b w.heap.size nb (B, C) (.slice a1 B.length c1) (.slice a2 C.length c2) (.slice a acc.length c) acc t1 w y3 from by rw [hy3]; exact I3.out.alloc _)
        have M3 := hid (show MB w3.heap.size d1 d2 [] [] 0 y3 from by rw [hy3]; exact block_alloc_new _ _)
        have nm := hid (show nb < w3.heap.size ∧ (∀ j, (Value.slice a acc.length c).ownBlock = some j → j ≠ w3.heap.size) from ⟨I3.out.lt, fun j hj e => by have := (I3.out.own.lt j hj).2; omega⟩)
        clear hr3 hk3 I3 h1
        go_wp2_with fail
        rw [← hy3]
        clear hy3
        generalize w3.heap.size = m at *
        refine (h2.out y3 J3.out.r.r).mono ?_
        rintro e w4 ⟨rfl, hr4, hk4⟩
        have I4 := hid (J3.out.next hr4 hk4)
        have M4 := hid (show MB m d1 d2 [] [] 0 w4 from block_kept M3.out hk4 (by have := nm.out.1; have := J3.out.rn; have := J3.out.wr; omega))
        obtain ⟨-, -, e2, -, -, f2, -, -⟩ := M4.out.cells
        obtain ⟨y4, hy4⟩ : ∃ y4, y4 = w4.setCell ⟨m, 2, none⟩ (.string (bs q)) := ⟨_, rfl⟩
        have J4 := hid (show RbW 98 b w.heap.size nb (B, C) (.slice a1 B.length c1) (.slice a2 C.length c2) (.slice a acc.length c) acc t2 w y4 from by rw [hy4]; exact I4.out.set nm.out.1 nm.out.2 _)
        have N4 := hid (show MB m d1 d2 q [] 0 y4 from by rw [hy4]; exact M4.out.set2 q)
        clear hr4 hk4 I4 M4 J3 M3 h2
        go_wp2_with fail
        rw [← hy4]
        clear hy4 e2 f2
        refine (h3.out y4 J4.out.r.r).mono ?_
        rintro e w5 ⟨rfl, hr5, hk5⟩
        have I5 := hid (J4.out.next hr5 hk5)
        have M5 := hid (show MB m d1 d2 q [] 0 w5 from block_kept N4.out hk5 (by have := nm.out.1; have := J4.out.rn; have := J4.out.wr; omega))
        obtain ⟨-, -, -, e3, -, -, f3, -⟩ := M5.out.cells
        obtain ⟨y5, hy5⟩ : ∃ y5, y5 = w5.setCell ⟨m, 3, none⟩ (.string (bs p)) := ⟨_, rfl⟩
        have J5 := hid (show RbW 98 b w.heap.size nb (B, C) (.slice a1 B.length c1) (.slice a2 C.length c2) (.slice a acc.length c) acc t3 w y5 from by rw [hy5]; exact I5.out.set nm.out.1 nm.out.2 _)
        have N5 := hid (show MB m d1 d2 q p 0 y5 from by rw [hy5]; exact M5.out.set3 p)
        clear hr5 hk5 I5 M5 J4 N4 h3
        go_wp2_with fail
        rw [← hy5]
        clear hy5 e3 f3
        refine (h4.out y5 J5.out.r.r).mono ?_
        rintro e w6 ⟨rfl, hr6, hk6⟩
        have I6 := hid (J5.out.next hr6 hk6)
        have M6 := hid (show MB m d1 d2 q p 0 w6 from block_kept N5.out hk6 (by have := nm.out.1; have := J5.out.rn; have := J5.out.wr; omega))
        obtain ⟨-, -, -, -, e4, -, -, f4⟩ := M6.out.cells
        have J6 := hid (I6.out.set (i := 4) nm.out.1 nm.out.2 (.int .i64 ct))
        have N6 := hid (M6.out.set4 ct)
        obtain ⟨y6, hy6⟩ : ∃ y6, y6 = w6.setCell ⟨m, 4, none⟩ (.int .i64 ct) := ⟨_, rfl⟩
        rw [← hy6] at J6 N6
        clear hr6 hk6 I6 M6 J5 N5 h4
        go_upto_region 10 with fail
        rw [← hy6]
        clear hy6 e4 f4
        obtain ⟨g0, g1, g2, g3, g4, -, -, -⟩ := N6.out.cells
        obtain ⟨b0, -, -, b3, -, -, -, -, -, -⟩ := J6.out.cells
        have hsz6 := hid (show nb + 1 ≤ (y6.alloc (.cells #[.int .i64 d1, .int .i64 d2, .string (bs q), .string (bs p), .int .i64 ct] 43)).heap.size from by have := J6.out.lt; simp; omega)
        have hs6 := hsz6.out
        go_wp2_with (at_builtin; refine wpList_append_msgs rfl _ _ rfl (nb + 1) _ acc acc.length rfl (J6.out.own.alloc _) _ [((d1, d2), q, p, ct)] 1 rfl (msgs_lit y6 ((d1, d2), q, p, ct)) (by omega) hs6 ?_)
        intro v7 w7 hown7 hg7
        have Hown7 := hid (show w7.ownsRow (nb + 1) 43 5 v7 (acc ++ [((d1, d2), q, p, ct)]).length (mvs (acc ++ [((d1, d2), q, p, ct)])) from by rw [List.length_append]; exact hown7)
        have J7 := hid ((J6.out.alloc _).grow hg7 Hown7.out)
        obtain ⟨h0, h3⟩ := (J6.out.alloc _).grownCells hg7
        obtain ⟨a7, c7, rfl⟩ := own_shape_d hown7
        obtain ⟨y7, hy7⟩ : ∃ y7, y7 = w7.setCell ⟨nb, 0, none⟩ (.slice a7 (acc.length + 1) c7) := ⟨_, rfl⟩
        rw [← hy7] at J7
        clear hown7 hg7 b0 b3 g0 g1 g2 g3 g4 hs6
        go_wp2
        rw [← hy7]
        clear hy7 h0 h3
        go_roundw
        case rel => exact ⟨k + 1, _, acc ++ [((d1, d2), q, p, ct)], t4, by go_num, by omega, by simp [Hlen.out], J7.out, Hstep.out⟩
        case measure => simp [RowKit.intOf]; omega
      · have hxx : (¬ (k : Int) < (n : Int)) ∨ ((k : Int) < (n : Int) ∧ t = true) := by
          by_cases h : k < n
          · right
            refine ⟨by omega, ?_⟩
            rw [ht]
            cases s
            · rfl
            · exact absurd ⟨h, by simp⟩ hlt
          · left; omega
        have hbn : ¬ b = w.heap.size := by omega
        have Hout := hid (show (∃ r, s = some r ∧ R = if bchk (acc, (B, C)) then ((acc, (B, C)), some r) else (([], [], []), none)) ∨ (s = none ∧ R = (([], [], []), none)) from by
          cases s with
          | none => exact .inr ⟨rfl, by rw [Hr2.out, show total = ([], none) from Hin.out]⟩
          | some r =>
            have hk : k = n := by
              by_cases h : k < n
              · exact absurd ⟨h, by simp⟩ hlt
              · omega
            subst hk
            have htt := RdIn.fin (show RdIn rdMsg total 0 acc (some r) by have := Hin.out; rwa [Nat.sub_self] at this)
            exact .inl ⟨r, rfl, by rw [Hr2.out, htt]⟩)
        have Htail := hid ht
        clear hlt ht Hin
        have hcb := hid (fun W (hW : BR3 (.slice a acc.length c) (.slice a1 B.length c1) (.slice a2 C.length c2) (acc, (B, C)) W) => hchk.out _ _ _ (acc, (B, C)) W hW (by show acc.length ≤ _; omega) (by show B.length ≤ _; have := Hl.out.1; omega) (by show C.length ≤ _; have := Hl.out.2; omega))
        unfold er1 at hcb
        generalize bchk (acc, (B, C)) = V at *
        obtain ⟨e0, e1, e2, e3, e4, e5, e6, e7, e8, e9⟩ := HI.out.cells
        rcases Hout.out with ⟨r, hs, hR⟩ | ⟨hs, hR⟩
        · subst hs
          have et : t = false := Htail.out
          subst et
          have hx : ¬ (k : Int) < (n : Int) := by
            rcases hxx with h | ⟨_, h⟩
            · exact h
            · cases h
          have HRr := hid hR
          clear hR hxx
          go_wp2_with fail
          refine (hcb.out _ ⟨Row.of_own HI.out.own, HI.out.ctx.1, HI.out.ctx.2⟩).mono ?_
          rintro e w4 ⟨rfl, hp4⟩
          have J4 := hid (HI.out.pure hp4)
          clear hp4 e0 e1 e2 e3 e4 e5 e6 e7 e8 e9 p0 p1 q0 q1
          obtain ⟨e0, e1, e2, e3, e4, e5, e6, e7, e8, e9⟩ := J4.out.cells
          obtain ⟨l1, t1, p0, p1, q0, q1, -, -⟩ := J4.out.r.r.parts
          cases V with
          | false =>
            have HR := hid (show R = (([], [], []), none) from HRr.out)
            have HD := hid (J4.out.tear.done (u0 := .slice none 0 0) (u1 := .slice none 0 0) (u2 := .slice none 0 0))
            go_wp2
            exact bodyPost_ret (v := .agg #[.slice none 0 0, .slice none 0 0, .slice none 0 0]) (by simp [results, Tryz.results53, go_sem, cell_of_block HD.out.2.1 0, cell_of_block HD.out.2.1 1, cell_of_block HD.out.2.1 2]) rfl ⟨_, _, _, rfl, by rw [HR.out]; exact BR3.nil _, BFr.nil _, by rw [HR.out]; exact HD.out.1.r, HD.out.1.k⟩
          | true =>
            have HR := hid (show R = ((acc, (B, C)), some r) from HRr.out)
            have HD := hid (J4.out.done (u0 := .slice a acc.length c) (u1 := .slice a1 B.length c1) (u2 := .slice a2 C.length c2))
            go_wp2
            exact bodyPost_ret (v := .agg #[.slice a acc.length c, .slice a1 B.length c1, .slice a2 C.length c2]) (by simp [results, Tryz.results53, go_sem, cell_of_block HD.out.2.1 0, cell_of_block HD.out.2.1 1, cell_of_block HD.out.2.1 2]) rfl ⟨_, _, _, rfl, by rw [HR.out]; exact HD.out.2.2.1, HD.out.2.2.2, by rw [HR.out]; exact HD.out.1.r, HD.out.1.k⟩
        · subst hs
          have et : t = true := Htail.out
          subst et
          have HR := hid hR
          have HD := hid (HI.out.tear.done (u0 := .slice none 0 0) (u1 := .slice none 0 0) (u2 := .slice none 0 0))
          clear hR
          rcases hxx with hx | ⟨hx, -⟩
          all_goals
            go_wp2
            exact bodyPost_ret (v := .agg #[.slice none 0 0, .slice none 0 0, .slice none 0 0]) (by simp [results, Tryz.results53, go_sem, cell_of_block HD.out.2.1 0, cell_of_block HD.out.2.1 1, cell_of_block HD.out.2.1 2]) rfl ⟨_, _, _, rfl, by rw [HR.out]; exact BR3.nil _, BFr.nil _, by rw [HR.out]; exact HD.out.1.r, HD.out.1.k⟩
end Go.Proofs.YtdlpnhfgjficgaaGreat
