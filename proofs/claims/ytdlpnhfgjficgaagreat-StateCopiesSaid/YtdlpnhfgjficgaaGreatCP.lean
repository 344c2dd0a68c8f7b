/- StateCopies: the walk. -/
import Derived.Test.YtdlpnhfgjficgaaGreatRN
import Derived.Test.YtdlpnhfgjficgaaGreatMWb
import Derived.Test.YtdlpnhfgjficgaaGreatMAp
import Derived.Test.YtdlpnhfgjficgaaGreatSO2
import Derived.Test.YtdlpnhfgjficgaaGreatMZa
namespace Go.Proofs.YtdlpnhfgjficgaaGreat
open Go.RowKit Go.Maps Go.Shelf

def runs (l : List Rc) : SD := l.foldl (fun S x => (appl S (rtext x)).1) S0
theorem runs_take {l : List Rc} {k : Nat} (h : k < l.length) : runs (l.take (k + 1)) = (appl (runs (l.take k)) (rtext (l.getD k rc0))).1 := by
  unfold runs
  rw [List.take_succ_eq_append_getElem h, List.foldl_append]
  simp [List.getD, h]
theorem St2.keep {n c : Nat} {S : SD} {w w' : World} (h : St2 n c S w) (hk : Kept (fun k => k = c) w w') (hn : n ≠ c) : St2 n c S w' := by
  obtain ⟨r, h1, h2, h3⟩ := h
  exact ⟨r, h1.kept hk hn, h2.kept2 h3 hk, h3.kept hk⟩
set_option maxRecDepth 8000 in
set_option maxHeartbeats 8000000 in
theorem copies_walk (a0 : Option Addr) (len cap : Nat) (L : List Rc) (xa xb : Rc) (w : World) (h : RecsIn w a0 len cap L) (ya : Rwf xa) (yb : Rwf xb) :
    Calls Tryz.prog 7 #[.slice a0 len cap, rcV xa, rcV xb] w fun e w' => e = .returned (.bool true) ∧ Pure w w' := by
  obtain ⟨hlen, hrow, hwf⟩ := h
  subst hlen
  have haw := hid awake19_any
  have Hta := hid (fun W => text_any xa W ya)
  have Htb := hid (fun W => text_any xb W yb)
  have Hba := hid (bsz_text xa)
  have Hbb := hid (bsz_text xb)
  have Hbs := hid (fun x => bsz_text x)
  have Htx := hid (fun k (hk : k < L.length) W => text_any (L.getD k rc0) W (hwf _ (by simp [List.getD, hk])))
  unfold TxP at Hta Htb Htx
  have Hrun := hid (fun k (hk : k < L.length) => runs_take hk)
  generalize rtext xa = ta at *
  generalize rtext xb = tb at *
  obtain ⟨a1, a2, a3, a4⟩ := xa
  obtain ⟨b1, b2, b3, b4⟩ := xb
  unfold rcV at Hta Htb ⊢
  dsimp only at Hta Htb ⊢
  obtain ⟨wz, hwz⟩ : ∃ wz, wz = (w.alloc (.cells #[.int .i64 a1, .int .i64 a2, .int .i64 a3, .string (bs a4)] 39)).alloc (.cells #[.int .i64 b1, .int .i64 b2, .int .i64 b3, .string (bs b4)] 39) := ⟨_, rfl⟩
  have Hpz := hid (show Pure w wz from by rw [hwz]; exact ((Below.refl _ _).alloc (Nat.le_refl _) _).alloc (by simp) _)
  have B4 := hid (show wz.heap[w.heap.size]? = some (.cells #[.int .i64 a1, .int .i64 a2, .int .i64 a3, .string (bs a4)] 39 (0, 0)) from by rw [hwz]; exact block_alloc_old (block_alloc_new _ _) _)
  have B5 := hid (show wz.heap[w.heap.size + 1]? = some (.cells #[.int .i64 b1, .int .i64 b2, .int .i64 b3, .string (bs b4)] 39 (0, 0)) from by
    have := block_alloc_new (w.alloc (.cells #[.int .i64 a1, .int .i64 a2, .int .i64 a3, .string (bs a4)] 39)) (.cells #[.int .i64 b1, .int .i64 b2, .int .i64 b3, .string (bs b4)] 39)
    rw [World.size_alloc] at this
    rw [hwz]; exact this)
  have Hrow := hid (fun W (hW : Pure wz W) => (show Recs W (.slice a0 L.length cap) L from Row.pure hrow (Hpz.out.then_ hW)))
  have Hc4 := hid (fun W (hW : Pure wz W) => (show W.cell? ⟨w.heap.size, 0, none⟩ = some (.int .i64 a1) ∧ W.cell? ⟨w.heap.size, 1, none⟩ = some (.int .i64 a2) ∧ W.cell? ⟨w.heap.size, 2, none⟩ = some (.int .i64 a3) ∧ W.cell? ⟨w.heap.size, 3, none⟩ = some (.string (bs a4)) from by
    have e := (hW.block _ (lt_of_block B4.out)).trans B4.out
    exact ⟨cell_of_block e 0, cell_of_block e 1, cell_of_block e 2, cell_of_block e 3⟩))
  have Hc5 := hid (fun W (hW : Pure wz W) => (show W.cell? ⟨w.heap.size + 1, 0, none⟩ = some (.int .i64 b1) ∧ W.cell? ⟨w.heap.size + 1, 1, none⟩ = some (.int .i64 b2) ∧ W.cell? ⟨w.heap.size + 1, 2, none⟩ = some (.int .i64 b3) ∧ W.cell? ⟨w.heap.size + 1, 3, none⟩ = some (.string (bs b4)) from by
    have e := (hW.block _ (lt_of_block B5.out)).trans B5.out
    exact ⟨cell_of_block e 0, cell_of_block e 1, cell_of_block e 2, cell_of_block e 3⟩))
  clear hrow hwf ya yb
  go_enter Tryz.func7, Tryz.ntmps7
  go_wp2_with fail
  rw [← hwz]
  clear hwz
  refine (haw.out _).mono ?_
  rintro e w1 ⟨rfl, hp1⟩
  have Hp1 := hid hp1
  clear hp1
  go_wp2_with fail
  refine (snew_any _).mono ?_
  rintro e w2 ⟨rfl, hs2, hp2⟩
  have Hp2 := hid (Hp1.out.then_ hp2)
  have Hs2 := hid (show St2 w1.heap.size w1.heap.size S0 w2 from (St.zero hs2).two)
  obtain ⟨n, hn⟩ : ∃ n, n = w1.heap.size := ⟨_, rfl⟩
  have Hn := hid (show wz.heap.size ≤ n from by rw [hn]; exact Hp1.out.size)
  rw [← hn] at Hs2 ⊢
  clear hs2 hp2 hn
  go_wp2
  go_loopw [9] (fun i wr => ∃ k : Nat, k ≤ L.length ∧ k ≤ 20 ∧ i = .int .i64 k ∧ St2 n n (runs (L.take k)) wr ∧ SOk (30 * k) (runs (L.take k)) ∧ Pure wz wr) (fun i _ => 20 - (RowKit.intOf i).toNat)
  case atStart => exact ⟨0, Nat.zero_le _, Nat.zero_le _, rfl, Hs2.out, SOk.zero 0, Hp2.out⟩
  case round =>
    obtain ⟨k, hk, hk20, rfl, hst, hok, hpr⟩ := hrel
    have Hst := hid hst
    have Hok := hid hok
    have Hpr := hid hpr
    by_cases hlt : k < L.length ∧ k < 20
    · obtain ⟨hl1, hl2⟩ := hlt
      obtain ⟨b, off, rfl, hb0, x0, x1, x2, x3⟩ := Recs.get (Hrow.out wr hpr) hl1
      have hl1' : (k : Int) < (L.length : Int) := by omega
      have hl2' : (k : Int) < 20 := by omega
      have Hr := hid (Hrun.out k hl1)
      have Ht := hid (Htx.out k hl1)
      have Hb := hid (Hbs.out (L.getD k rc0))
      generalize L.getD k rc0 = x at *
      generalize rtext x = tx at *
      obtain ⟨y1, y2, y3, y4⟩ := x
      unfold rcV at Ht
      dsimp only at Ht x0 x1 x2 x3
      clear hst hok hpr hb0
      go_wp2_with fail
      refine (Ht.out _).mono ?_
      rintro e w3 ⟨rfl, hp3⟩
      have Hp3 := hid hp3
      clear hp3 x0 x1 x2 x3
      go_wp2_with fail
      refine (sapply_any n n (30 * k) 30 _ tx w3 (Hst.out.pure Hp3.out) (Hst.out.pure Hp3.out).lt Hok.out Hb.out (by omega)).mono ?_
      rintro e w4 ⟨rfl, hs4, hk4⟩
      have Hs4 := hid hs4
      have Hk4 := hid hk4
      clear hs4 hk4
      go_wp2
      go_roundw
      case rel => exact ⟨k + 1, by omega, by omega, by go_num, by rw [Hr.out]; exact Hs4.out, by rw [Hr.out, Nat.mul_add]; exact Hok.out.appl Hb.out, pure_box (Hpr.out.then_ Hp3.out) Hk4.out Hn.out⟩
      case measure => simp [RowKit.intOf]; omega
    · have hx : ¬ k < L.length ∨ (k < L.length ∧ k = 20) := by omega
      rcases hx with hx | ⟨hx, rfl⟩
      · have hx' : ¬ (k : Int) < (L.length : Int) := by omega
        clear hst hok hpr
        generalize runs (L.take k) = S at *
        have hM : 30 * k ≤ 600 := by omega
        have hMM := hid hM
        generalize 30 * k = M at *
        go_wp2_with fail
        refine (scopy_any n S _ Hst.out.st).mono ?_
        rintro e w3 ⟨rfl, hc3, hs3, hp3⟩
        obtain ⟨c, hcc⟩ : ∃ c, c = wr.heap.size := ⟨_, rfl⟩
        have Hnc := hid (show n < c from by rw [hcc]; exact Hst.out.lt)
        have Hcz := hid (show wz.heap.size ≤ c from by rw [hcc]; exact Hpr.out.size)
        rw [← hcc] at hc3 hs3 ⊢
        clear hcc
        have HC3 := hid hc3
        have HS3 := hid hs3
        have P3 := hid (Hpr.out.then_ hp3)
        clear hc3 hs3 hp3
        go_wp2_with fail
        refine (srecs_any n S M _ HS3.out.st Hok.out (by omega)).mono ?_
        rintro e w5 ⟨v5, rfl, ho5, hp5⟩
        obtain ⟨a5, c5, rfl⟩ := own_shape_d ho5
        have HO5 := hid (own_mono ho5 (show w3.heap.size ≤ w3.heap.size from Nat.le_refl _))
        have Q5 := hid hp5
        have P5 := hid (P3.out.then_ hp5)
        have Hc3 := hid (show c < w3.heap.size from HC3.out.lt)
        clear ho5 hp5
        go_wp2_with fail
        refine (srecs_any c S M _ (HC3.out.pure Q5.out).st Hok.out (by omega)).mono ?_
        rintro e w6 ⟨v6, rfl, ho6, hp6⟩
        obtain ⟨a6, c6, rfl⟩ := own_shape_d ho6
        have HO6 := hid ho6
        have Q6 := hid (Q5.out.then_ hp6)
        have P6 := hid (P5.out.then_ hp6)
        have R5 := hid (show Strs w6 (.slice a5 (srecs S).length c5) (srecs S) from Row.pure (Row.of_own HO5.out) hp6)
        clear ho6 hp6
        go_wp2_with fail
        refine (rstexts_any _ _ (srecs S) (srecs S) w6 (Row.of_own HO6.out) R5.out).mono ?_
        rintro e w7 ⟨rfl, hp7⟩
        rw [show decide (srecs S = srecs S) = true by simp]
        have Q7 := hid (Q6.out.then_ hp7)
        have P7 := hid (P6.out.then_ hp7)
        have R7 := hid (show Strs w7 (.slice a5 (srecs S).length c5) (srecs S) from Row.pure R5.out hp7)
        clear hp7
        obtain ⟨x0, x1, x2, x3⟩ := Hc4.out _ P7.out
        go_wp2_with fail
        clear x0 x1 x2 x3
        refine (Hta.out _).mono ?_
        rintro e w8 ⟨rfl, hp8⟩
        have Q8 := hid (Q7.out.then_ hp8)
        have P8 := hid (P7.out.then_ hp8)
        have R8 := hid (show Strs w8 (.slice a5 (srecs S).length c5) (srecs S) from Row.pure R7.out hp8)
        clear hp8
        go_wp2_with fail
        refine (sapply_any c n M 30 S ta w8 (HC3.out.pure Q8.out) (HS3.out.pure Q8.out).lt Hok.out Hba.out (by omega)).mono ?_
        rintro e w9 ⟨rfl, hs9, hk9⟩
        have HC9 := hid hs9
        have HS9 := hid ((HS3.out.pure Q8.out).keep hk9 (by have := Hnc.out; omega))
        have P9 := hid (pure_box P8.out hk9 Hcz.out)
        have Hok9 := hid (Hok.out.appl Hba.out)
        have R9 := hid (show Strs w9 (.slice a5 (srecs S).length c5) (srecs S) from Row.kept R8.out hk9 (fun j hj e => by have := (HO5.out.lt j (rb_own hj)).1; have := Hc3.out; omega))
        have Q9 := hid hk9
        clear hs9 hk9
        generalize (appl S ta).1 = S2 at *
        go_wp2_with fail
        refine (srecs_any n S M _ HS9.out.st Hok.out (by omega)).mono ?_
        rintro e w10 ⟨v10, rfl, ho10, hp10⟩
        obtain ⟨a10, c10, rfl⟩ := own_shape_d ho10
        have HO10 := hid ho10
        have P10 := hid (P9.out.then_ hp10)
        have T10 := hid hp10
        have R10 := hid (show Strs w10 (.slice a5 (srecs S).length c5) (srecs S) from Row.pure R9.out hp10)
        clear ho10 hp10
        go_wp2_with fail
        refine (rstexts_any _ _ (srecs S) (srecs S) w10 (Row.of_own HO10.out) R10.out).mono ?_
        rintro e w11 ⟨rfl, hp11⟩
        rw [show decide (srecs S = srecs S) = true by simp]
        have P11 := hid (P10.out.then_ hp11)
        have T11 := hid (T10.out.then_ hp11)
        clear hp11
        go_wp2_with fail
        refine (srecs_any c S2 (M + 30) _ (HC9.out.pure T11.out).st Hok9.out (by omega)).mono ?_
        rintro e w12 ⟨v12, rfl, ho12, hp12⟩
        obtain ⟨a12, c12, rfl⟩ := own_shape_d ho12
        have HO12 := hid ho12
        have P12 := hid (P11.out.then_ hp12)
        have T12 := hid (T11.out.then_ hp12)
        have Hn11 := hid (show n < w11.heap.size from (HS9.out.pure T11.out).lt)
        clear ho12 hp12
        obtain ⟨x0, x1, x2, x3⟩ := Hc5.out _ P12.out
        go_wp2_with fail
        clear x0 x1 x2 x3
        refine (Htb.out _).mono ?_
        rintro e w13 ⟨rfl, hp13⟩
        have P13 := hid (P12.out.then_ hp13)
        have T13 := hid (T12.out.then_ hp13)
        have R13 := hid (show Strs w13 (.slice a12 (srecs S2).length c12) (srecs S2) from Row.pure (Row.of_own HO12.out) hp13)
        clear hp13
        go_wp2_with fail
        refine (sapply_any n c M 30 S tb w13 (HS9.out.pure T13.out) (HC9.out.pure T13.out).lt Hok.out Hbb.out (by omega)).mono ?_
        rintro e w14 ⟨rfl, hs14, hk14⟩
        have HC14 := hid ((HC9.out.pure T13.out).keep hk14 (by have := Hnc.out; omega))
        have P14 := hid (pure_box P13.out hk14 Hn.out)
        have R14 := hid (show Strs w14 (.slice a12 (srecs S2).length c12) (srecs S2) from Row.kept R13.out hk14 (fun j hj e => by have := (HO12.out.lt j (rb_own hj)).1; have := Hn11.out; omega))
        clear hs14 hk14
        go_wp2_with fail
        refine (srecs_any c S2 (M + 30) _ HC14.out.st Hok9.out (by omega)).mono ?_
        rintro e w15 ⟨v15, rfl, ho15, hp15⟩
        obtain ⟨a15, c15, rfl⟩ := own_shape_d ho15
        have HO15 := hid ho15
        have P15 := hid (P14.out.then_ hp15)
        have R15 := hid (show Strs w15 (.slice a12 (srecs S2).length c12) (srecs S2) from Row.pure R14.out hp15)
        clear ho15 hp15
        go_wp2_with fail
        refine (rstexts_any _ _ (srecs S2) (srecs S2) w15 (Row.of_own HO15.out) R15.out).mono ?_
        rintro e w16 ⟨rfl, hp16⟩
        rw [show decide (srecs S2 = srecs S2) = true by simp]
        have P16 := hid (P15.out.then_ hp16)
        clear hp16
        go_wp2
        go_ret
        exact ⟨rfl, Hpz.out.then_ P16.out⟩
      · have hx' : ((20 : Nat) : Int) < (L.length : Int) := by omega
        have hx2 : (20 : Int) < (L.length : Int) := by omega
        clear hst hok hpr
        generalize runs (L.take 20) = S at *
        have hM : 30 * 20 ≤ 600 := by omega
        have hMM := hid hM
        generalize 30 * 20 = M at *
        go_wp2_with fail
        refine (scopy_any n S _ Hst.out.st).mono ?_
        rintro e w3 ⟨rfl, hc3, hs3, hp3⟩
        obtain ⟨c, hcc⟩ : ∃ c, c = wr.heap.size := ⟨_, rfl⟩
        have Hnc := hid (show n < c from by rw [hcc]; exact Hst.out.lt)
        have Hcz := hid (show wz.heap.size ≤ c from by rw [hcc]; exact Hpr.out.size)
        rw [← hcc] at hc3 hs3 ⊢
        clear hcc
        have HC3 := hid hc3
        have HS3 := hid hs3
        have P3 := hid (Hpr.out.then_ hp3)
        clear hc3 hs3 hp3
        go_wp2_with fail
        refine (srecs_any n S M _ HS3.out.st Hok.out (by omega)).mono ?_
        rintro e w5 ⟨v5, rfl, ho5, hp5⟩
        obtain ⟨a5, c5, rfl⟩ := own_shape_d ho5
        have HO5 := hid (own_mono ho5 (show w3.heap.size ≤ w3.heap.size from Nat.le_refl _))
        have Q5 := hid hp5
        have P5 := hid (P3.out.then_ hp5)
        have Hc3 := hid (show c < w3.heap.size from HC3.out.lt)
        clear ho5 hp5
        go_wp2_with fail
        refine (srecs_any c S M _ (HC3.out.pure Q5.out).st Hok.out (by omega)).mono ?_
        rintro e w6 ⟨v6, rfl, ho6, hp6⟩
        obtain ⟨a6, c6, rfl⟩ := own_shape_d ho6
        have HO6 := hid ho6
        have Q6 := hid (Q5.out.then_ hp6)
        have P6 := hid (P5.out.then_ hp6)
        have R5 := hid (show Strs w6 (.slice a5 (srecs S).length c5) (srecs S) from Row.pure (Row.of_own HO5.out) hp6)
        clear ho6 hp6
        go_wp2_with fail
        refine (rstexts_any _ _ (srecs S) (srecs S) w6 (Row.of_own HO6.out) R5.out).mono ?_
        rintro e w7 ⟨rfl, hp7⟩
        rw [show decide (srecs S = srecs S) = true by simp]
        have Q7 := hid (Q6.out.then_ hp7)
        have P7 := hid (P6.out.then_ hp7)
        have R7 := hid (show Strs w7 (.slice a5 (srecs S).length c5) (srecs S) from Row.pure R5.out hp7)
        clear hp7
        obtain ⟨x0, x1, x2, x3⟩ := Hc4.out _ P7.out
        go_wp2_with fail
        clear x0 x1 x2 x3
        refine (Hta.out _).mono ?_
        rintro e w8 ⟨rfl, hp8⟩
        have Q8 := hid (Q7.out.then_ hp8)
        have P8 := hid (P7.out.then_ hp8)
        have R8 := hid (show Strs w8 (.slice a5 (srecs S).length c5) (srecs S) from Row.pure R7.out hp8)
        clear hp8
        go_wp2_with fail
        refine (sapply_any c n M 30 S ta w8 (HC3.out.pure Q8.out) (HS3.out.pure Q8.out).lt Hok.out Hba.out (by omega)).mono ?_
        rintro e w9 ⟨rfl, hs9, hk9⟩
        have HC9 := hid hs9
        have HS9 := hid ((HS3.out.pure Q8.out).keep hk9 (by have := Hnc.out; omega))
        have P9 := hid (pure_box P8.out hk9 Hcz.out)
        have Hok9 := hid (Hok.out.appl Hba.out)
        have R9 := hid (show Strs w9 (.slice a5 (srecs S).length c5) (srecs S) from Row.kept R8.out hk9 (fun j hj e => by have := (HO5.out.lt j (rb_own hj)).1; have := Hc3.out; omega))
        have Q9 := hid hk9
        clear hs9 hk9
        generalize (appl S ta).1 = S2 at *
        go_wp2_with fail
        refine (srecs_any n S M _ HS9.out.st Hok.out (by omega)).mono ?_
        rintro e w10 ⟨v10, rfl, ho10, hp10⟩
        obtain ⟨a10, c10, rfl⟩ := own_shape_d ho10
        have HO10 := hid ho10
        have P10 := hid (P9.out.then_ hp10)
        have T10 := hid hp10
        have R10 := hid (show Strs w10 (.slice a5 (srecs S).length c5) (srecs S) from Row.pure R9.out hp10)
        clear ho10 hp10
        go_wp2_with fail
        refine (rstexts_any _ _ (srecs S) (srecs S) w10 (Row.of_own HO10.out) R10.out).mono ?_
        rintro e w11 ⟨rfl, hp11⟩
        rw [show decide (srecs S = srecs S) = true by simp]
        have P11 := hid (P10.out.then_ hp11)
        have T11 := hid (T10.out.then_ hp11)
        clear hp11
        go_wp2_with fail
        refine (srecs_any c S2 (M + 30) _ (HC9.out.pure T11.out).st Hok9.out (by omega)).mono ?_
        rintro e w12 ⟨v12, rfl, ho12, hp12⟩
        obtain ⟨a12, c12, rfl⟩ := own_shape_d ho12
        have HO12 := hid ho12
        have P12 := hid (P11.out.then_ hp12)
        have T12 := hid (T11.out.then_ hp12)
        have Hn11 := hid (show n < w11.heap.size from (HS9.out.pure T11.out).lt)
        clear ho12 hp12
        obtain ⟨x0, x1, x2, x3⟩ := Hc5.out _ P12.out
        go_wp2_with fail
        clear x0 x1 x2 x3
        refine (Htb.out _).mono ?_
        rintro e w13 ⟨rfl, hp13⟩
        have P13 := hid (P12.out.then_ hp13)
        have T13 := hid (T12.out.then_ hp13)
        have R13 := hid (show Strs w13 (.slice a12 (srecs S2).length c12) (srecs S2) from Row.pure (Row.of_own HO12.out) hp13)
        clear hp13
        go_wp2_with fail
        refine (sapply_any n c M 30 S tb w13 (HS9.out.pure T13.out) (HC9.out.pure T13.out).lt Hok.out Hbb.out (by omega)).mono ?_
        rintro e w14 ⟨rfl, hs14, hk14⟩
        have HC14 := hid ((HC9.out.pure T13.out).keep hk14 (by have := Hnc.out; omega))
        have P14 := hid (pure_box P13.out hk14 Hn.out)
        have R14 := hid (show Strs w14 (.slice a12 (srecs S2).length c12) (srecs S2) from Row.kept R13.out hk14 (fun j hj e => by have := (HO12.out.lt j (rb_own hj)).1; have := Hn11.out; omega))
        clear hs14 hk14
        go_wp2_with fail
        refine (srecs_any c S2 (M + 30) _ HC14.out.st Hok9.out (by omega)).mono ?_
        rintro e w15 ⟨v15, rfl, ho15, hp15⟩
        obtain ⟨a15, c15, rfl⟩ := own_shape_d ho15
        have HO15 := hid ho15
        have P15 := hid (P14.out.then_ hp15)
        have R15 := hid (show Strs w15 (.slice a12 (srecs S2).length c12) (srecs S2) from Row.pure R14.out hp15)
        clear ho15 hp15
        go_wp2_with fail
        refine (rstexts_any _ _ (srecs S2) (srecs S2) w15 (Row.of_own HO15.out) R15.out).mono ?_
        rintro e w16 ⟨rfl, hp16⟩
        rw [show decide (srecs S2 = srecs S2) = true by simp]
        have P16 := hid (P15.out.then_ hp16)
        clear hp16
        go_wp2
        go_ret
        exact ⟨rfl, Hpz.out.then_ P16.out⟩
end Go.Proofs.YtdlpnhfgjficgaaGreat
