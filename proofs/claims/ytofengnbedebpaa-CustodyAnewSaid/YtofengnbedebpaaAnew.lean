/- law18's CustodyAnew. -/
import Derived.Test.YtofengnbedebpaaAnewP
namespace Go.Proofs.Ytofengnbedebpaa
open Go.RowKit Go.Maps Go.MapKept

set_option maxRecDepth 100000 in
set_option maxHeartbeats 8000000 in
theorem anew_walk (q0 q1 : Int) (v : Value) (l : List Int) (ah : Option Addr) (lh ch : Nat) (H : List Bool) (w : World) (hr : Ints w v l) (hwf : AllWf l) (hbo : BoolsAt w ah lh ch H) :
    Calls Try.prog 4 #[.agg #[.int .i64 q0, .int .i64 q1], v, .slice ah lh ch] w fun e w' => e = .returned (.bool true) ∧ Pure w w' := by
  obtain ⟨jj, hjj⟩ : ∃ jj, n7 q0 = jj := ⟨_, rfl⟩
  obtain ⟨kk, hkk⟩ : ∃ kk, n7 q1 = kk := ⟨_, rfl⟩
  have hj := n7_eq q0
  have hk := n7_eq q1
  rw [hjj] at hj
  rw [hkk] at hk
  have j7 : jj ≤ 7 := by rw [← hjj]; exact n7_le q0
  have k7 : kk ≤ 7 := by rw [← hkk]; exact n7_le q1
  have hfl := few_le l
  have hfw := few_wf hwf
  have hone0 := hid (fun W => one_to2 q0 W hjj)
  have hone1 := hid (fun W => one_to2 q1 W hkk)
  have hwz := hid (show Pure w (w.alloc (.cells #[.int .i64 q0, .int .i64 q1] 41)) from (Below.refl _ _).alloc (Nat.le_refl _) _)
  obtain ⟨wz, hwze⟩ : ∃ wz, wz = w.alloc (.cells #[.int .i64 q0, .int .i64 q1] 41) := ⟨_, rfl⟩
  have hq : Hid (∀ W, Pure wz W → W.cell? ⟨w.heap.size, 0, none⟩ = some (.int .i64 q0) ∧ W.cell? ⟨w.heap.size, 1, none⟩ = some (.int .i64 q1)) := fun W hW => by
    have e0 : W.heap[w.heap.size]? = some (.cells #[.int .i64 q0, .int .i64 q1] 41 (0, 0)) := (hW.block _ (by rw [hwze]; simp)).trans (by rw [hwze]; exact block_alloc_new _ _)
    exact ⟨cell_of_block e0 0, cell_of_block e0 1⟩
  rw [← hwze] at hwz
  have Hl := hid (fun W (hW : Pure w W) => few_any v l W (Row.pure hr hW))
  have HH := hid (fun W (hW : Pure w W) => hbo.pure hW)
  have hlen := hbo.len
  obtain ⟨av, cv, rfl⟩ := hr.shape
  clear hr hwf hjj hkk hbo
  subst hlen
  go_enter Try.func4, Try.ntmps4
  go_wp2_with fail
  rw [← hwze]
  clear hwze
  refine (awake_any wz).mono ?_
  rintro e w1 ⟨rfl, hp1⟩
  have Hp1 := hid hp1
  clear hp1
  go_wp2_with fail
  refine (Hl.out w1 (hwz.out.then_ Hp1.out)).mono ?_
  rintro e w1' ⟨vo, rfl, hints, -, rfl⟩
  have Ho := hid hints
  generalize few l = o at *
  obtain ⟨ao, co, rfl⟩ := hints.shape
  clear hints
  obtain ⟨f0, f1⟩ := hq.out w1 Hp1.out
  go_wp2_with fail
  refine (hone0.out w1).mono ?_
  rintro e w2 ⟨p0, s0, p1, s1, p2, s2, rfl, hat, hp2⟩
  generalize hL0 : (oneB jj).1.length = n0 at *
  generalize hL1 : (oneB jj).2.1.length = n1 at *
  generalize hL2 : (oneB jj).2.2.length = n2 at *
  clear hL0 hL1 hL2 f0 f1
  obtain ⟨wX, hwX⟩ : ∃ wX, wX = w2.alloc (.cells #[.slice p0 n0 s0, .slice p1 n1 s1, .slice p2 n2 s2] 31) := ⟨_, rfl⟩
  obtain ⟨X, hX⟩ : ∃ X, X = w2.heap.size := ⟨_, rfl⟩
  have HpX := hid (show Pure w2 wX from by rw [hwX]; exact (Below.refl _ _).alloc (Nat.le_refl _) _)
  have HbX := hid (show wX.heap[X]? = some (.cells #[.slice p0 n0 s0, .slice p1 n1 s1, .slice p2 n2 s2] 31 (0, 0)) by rw [hwX, hX]; exact block_alloc_new _ _)
  have HatX := hid (hat.pure HpX.out)
  have Hw2 := hid (Hp1.out.then_ (hp2.then_ HpX.out))
  have HoX := hid (show Ints wX (.slice ao o.length co) o from (Row.pure Ho.out hp2).pure HpX.out)
  clear hat hp2
  have hqx : ((wX.cell? ⟨w.heap.size, 0, none⟩ = some (.int .i64 q0) ∧ wX.cell? ⟨w.heap.size, 1, none⟩ = some (.int .i64 q1))) := hq.out wX Hw2.out
  have Hqx := hid hqx
  rw [hwX] at hqx
  obtain ⟨f0, f1⟩ := hqx
  go_wp2_with fail
  rw [← hwX, ← hX]
  clear hwX hX f0 f1
  refine (hone1.out wX).mono ?_
  rintro e w3 ⟨r0, t0, r1, t1, r2, t2, rfl, hat, hp2⟩
  generalize hL0 : (oneB kk).1.length = m0 at *
  generalize hL1 : (oneB kk).2.1.length = m1 at *
  generalize hL2 : (oneB kk).2.2.length = m2 at *
  clear hL0 hL1 hL2
  obtain ⟨wY, hwY⟩ : ∃ wY, wY = w3.alloc (.cells #[.slice r0 m0 t0, .slice r1 m1 t1, .slice r2 m2 t2] 31) := ⟨_, rfl⟩
  obtain ⟨Y, hY⟩ : ∃ Y, Y = w3.heap.size := ⟨_, rfl⟩
  obtain ⟨n, hn⟩ : ∃ n, n = wY.heap.size := ⟨_, rfl⟩
  obtain ⟨c, hc⟩ : ∃ c, c = wY.heap.size + 2 := ⟨_, rfl⟩
  have HpY := hid (show Pure w3 wY from by rw [hwY]; exact (Below.refl _ _).alloc (Nat.le_refl _) _)
  have hXY := hid (hp2.then_ HpY.out)
  have HbY := hid (show wY.heap[Y]? = some (.cells #[.slice r0 m0 t0, .slice r1 m1 t1, .slice r2 m2 t2] 31 (0, 0)) by rw [hwY, hY]; exact block_alloc_new _ _)
  have HatY := hid (hat.pure HpY.out)
  have HwY := hid (hwz.out.then_ (Hw2.out.then_ hXY.out))
  have HoY := hid (HoX.out.pure hXY.out)
  have Hnew := hid (cunew_to wY hn hc)
  have Hn := hid (And.intro hn hc)
  have hqy : ((wY.cell? ⟨w.heap.size, 0, none⟩ = some (.int .i64 q0) ∧ wY.cell? ⟨w.heap.size, 1, none⟩ = some (.int .i64 q1))) := hq.out wY (Hw2.out.then_ hXY.out)
  rw [hwY] at hqy
  obtain ⟨f0, f1⟩ := hqy
  clear hat hp2 hn hc
  by_cases hjk : jj = kk
  · have e1 : ((jj : Int) == (kk : Int)) = true := by simp [hjk]
    clear hjk
    have HP := hid HwY.out
    go_wp2
    go_ret
    exact ⟨rfl, by rw [← hwY]; exact HP.out⟩
  by_cases hj0 : jj = 0
  · have e1 : ((jj : Int) == (kk : Int)) = false := by rw [beq_eq_false_iff_ne]; omega
    have e2 : ((jj : Int) == 0) = true := by simp [hj0]
    clear hjk hj0
    have HP := hid HwY.out
    go_wp2
    go_ret
    exact ⟨rfl, by rw [← hwY]; exact HP.out⟩
  have e1 : ((jj : Int) == (kk : Int)) = false := by rw [beq_eq_false_iff_ne]; omega
  have e2 : ((jj : Int) == 0) = false := by rw [beq_eq_false_iff_ne]; omega
  have Hm := hid (show mk jj ≠ mk kk from fun h => hjk (mk_inj j7 k7 h))
  have hk1 := hid (an_keep1 jj hj0)
  have hk2 := hid (an_keep2 jj)
  clear hjk hj0
  go_wp2_with fail
  rw [← hwY, ← hY]
  clear hwY hY f0 f1 e1 e2
  refine Hnew.out.mono ?_
  rintro e w4 ⟨rfl, hc4, hp4⟩
  have hst : Hid (∀ W, KC n c w4 W → (W.cell? ⟨X, 0, none⟩ = some (.slice p0 n0 s0) ∧ W.cell? ⟨X, 1, none⟩ = some (.slice p1 n1 s1) ∧ W.cell? ⟨X, 2, none⟩ = some (.slice p2 n2 s2) ∧ BagAt W (.agg #[.slice p0 n0 s0, .slice p1 n1 s1, .slice p2 n2 s2]) (oneB jj)) ∧ (W.cell? ⟨Y, 0, none⟩ = some (.slice r0 m0 t0) ∧ W.cell? ⟨Y, 1, none⟩ = some (.slice r1 m1 t1) ∧ W.cell? ⟨Y, 2, none⟩ = some (.slice r2 m2 t2) ∧ BagAt W (.agg #[.slice r0 m0 t0, .slice r1 m1 t1, .slice r2 m2 t2]) (oneB kk)) ∧ Ints W (.slice ao o.length co) o ∧ Pure w W) := fun W hW => by
    obtain ⟨hn, hc⟩ := Hn.out
    have lX := lt_of_block HbX.out
    have lY := lt_of_block HbY.out
    have lXY := hXY.out.size
    have rbs : ∀ (W0 : World) (x0 x1 x2 : Value) (g : Bag), W0.heap.size ≤ wY.heap.size → BagAt W0 (.agg #[x0, x1, x2]) g → ∀ k, (x0.rb = some k ∨ x1.rb = some k ∨ x2.rb = some k) → k ≠ c := fun W0 x0 x1 x2 g hs hB k hk => by
      obtain ⟨y0, y1, y2, ey, h0, h1, h2⟩ := hB
      obtain ⟨rfl, rfl, rfl⟩ := agg3 ey
      rcases hk with hk | hk | hk
      · have := Row.lt h0 k hk; omega
      · have := Row.lt h1 k hk; omega
      · have := Row.lt h2 k hk; omega
    refine ⟨bag_stays (by omega) ((hp4.block _ (by omega)).trans ((hXY.out.block _ lX).trans HbX.out)) ((HatX.out.pure hXY.out).pure hp4) (rbs wX _ _ _ _ lXY HatX.out) W hW, bag_stays (by omega) ((hp4.block _ lY).trans HbY.out) (HatY.out.pure hp4) (rbs wY _ _ _ _ (Nat.le_refl _) HatY.out) W hW, ?_, ?_⟩
    · exact hW.row (Row.pure HoY.out hp4) (fun q hq => by have := Row.lt HoY.out q hq; omega)
    · exact (HwY.out.then_ hp4).kc hW (by have := HwY.out.size; omega)
  have Hc4 := hid hc4
  clear hc4 hp4
  have hbmX := hid (fun W (hW : KC n c w4 W) => bytes_to (hst.out W hW).1.2.2.2 j7)
  have hbmY := hid (fun W (hW : KC n c w4 W) => bytes_to (hst.out W hW).2.1.2.2.2 k7)
  obtain ⟨⟨f0, f1, f2, hat4⟩, -, -, -⟩ := hst.out w4 (KC.refl _ _ _)
  have hK1 := hid (keep_to Hc4.out hat4 j7 (p := 5) rfl hk1.out)
  clear hat4
  go_wp2_with fail
  refine hK1.out.mono ?_
  rintro e w5 ⟨rfl, hc5, hk5⟩
  have Hk5 := hid hk5
  have Hc5 := hid hc5
  clear hk5 hc5 f0 f1 f2
  obtain ⟨⟨f0, f1, f2, hat5⟩, -, -, -⟩ := hst.out w5 Hk5.out
  have hK2 := hid (keep_to Hc5.out hat5 j7 (p := 5) rfl hk2.out)
  clear hat5
  go_wp2_with fail
  refine hK2.out.mono ?_
  rintro e w6 ⟨rfl, hc6, hk6⟩
  have Hk6 := hid (Hk5.out.trans hk6)
  have Hc6 := hid hc6
  have hk3 := hid (fun i => an_keep3 (mk jj) o i kk Hm.out)
  have hK3 := hid (fun W (hW : KC n c w4 W) (hC : Cu W n c (an1 (mk jj) o o.length)) => keep_to hC (hst.out W hW).2.1.2.2.2 k7 (p := 5) rfl (hk3.out o.length))
  clear hk6 hc6 f0 f1 f2 hk1 hk2 hk3 hK1 hK2
  generalize mk jj = ma at *
  generalize mk kk = mb at *
  have Ha0 := hid (show an1 ma o 0 = [(5, ma, [])] from rfl)
  rw [← Ha0.out] at Hc6
  go_wp2
  go_loopw [12] (fun i wr => ∃ j : Nat, j ≤ o.length ∧ i = .int .i64 j ∧ Cu wr n c (an1 ma o j) ∧ KC n c w4 wr) (fun i _ => o.length - (RowKit.intOf i).toNat)
  case atStart => exact ⟨0, Nat.zero_le _, rfl, Hc6.out, Hk6.out⟩
  case round =>
    obtain ⟨j, hj', rfl, hcu, hkc⟩ := hrel
    by_cases hlt : j < o.length
    · have hlt' : (j : Int) < (o.length : Int) := by omega
      obtain ⟨bo, oo, rfl, -, -⟩ := ints_get_j (hst.out wr hkc).2.2.1 hlt
      have wx := hfw.get hlt
      have hhd' := hid (an_heard1 ma o j hlt)
      have hS : Hid (∀ W, KC n c w4 W → (W.cell? ⟨bo, oo + j, none⟩ = some (.int .i64 (o.getD j 0)) ∧ W.cell? ⟨X, 0, none⟩ = some (.slice p0 n0 s0) ∧ W.cell? ⟨X, 1, none⟩ = some (.slice p1 n1 s1) ∧ W.cell? ⟨X, 2, none⟩ = some (.slice p2 n2 s2) ∧ KC n c w4 W)) := fun W hW => by
        obtain ⟨⟨g0, g1, g2, _⟩, _, gi, _⟩ := hst.out W hW
        obtain ⟨b', o', e', _, hx⟩ := ints_get_j gi hlt
        cases e'
        exact ⟨hx, g0, g1, g2, hW⟩
      have hS2 : Hid (∀ W : World, (W.cell? ⟨bo, oo + j, none⟩ = some (.int .i64 (o.getD j 0)) ∧ W.cell? ⟨X, 0, none⟩ = some (.slice p0 n0 s0) ∧ W.cell? ⟨X, 1, none⟩ = some (.slice p1 n1 s1) ∧ W.cell? ⟨X, 2, none⟩ = some (.slice p2 n2 s2) ∧ KC n c w4 W) → KC n c w4 W) := fun W h => h.2.2.2.2
      have hh := hid (fun W hC => cuheard_any n c (an1 ma o j) 5 (o.getD j 0) ma W hC rfl wx)
      generalize (cheard (an1 ma o j) 5 (o.getD j 0) ma).1 = S2 at *
      generalize (cheard (an1 ma o j) 5 (o.getD j 0) ma).2 = b2 at *
      generalize an1 ma o j = S1 at *
      generalize o.getD j 0 = x at *
      generalize bs ma = M at *
      have hC0 : Cu wr.drew n c S1 := hcu.pure (Below.refl _ _).drew
      have hst0 := hid (hS.out wr.drew (hkc.trans (KC.pure (Below.refl _ _).drew)))
      clear hkc hcu
      go_wp2_with fail
      go_region_held3 (fun W => W.cell? ⟨bo, oo + j, none⟩ = some (.int .i64 x) ∧ W.cell? ⟨X, 0, none⟩ = some (.slice p0 n0 s0) ∧ W.cell? ⟨X, 1, none⟩ = some (.slice p1 n1 s1) ∧ W.cell? ⟨X, 2, none⟩ = some (.slice p2 n2 s2) ∧ KC n c w4 W)
        (first | with_reducible exact hst0.out | with_reducible exact hS.out _ (KC.trans (hS2.out _ (by assumption)) (KC.pure (by assumption))) | with_reducible exact hS.out _ (KC.trans (hS2.out _ (by assumption)) (by assumption)))
        (first
          | (go_at_call 14; with_reducible refine (hbmX.out _ (hS2.out _ (by assumption))).mono ?_; rintro e w7 ⟨rfl, hp7⟩; have hC7 : Cu w7 n c S1 := Cu.pure (by assumption) hp7)
          | (go_at_call 13; with_reducible refine (hh.out _ (by assumption)).mono ?_; rintro e w7 ⟨rfl, hC8, hk8⟩))
      have HC8 := hid hC8
      have Hk8 := hid (hS2.out w7 (by assumption))
      clear hC8 hk8 hst0 hC0
      go_wp2
      go_roundw
      case rel => exact ⟨j + 1, by omega, by go_num, by rw [← hhd'.out]; exact HC8.out, Hk8.out⟩
      case measure => simp [RowKit.intOf]; omega
    · have hlt' : ¬ (j : Int) < (o.length : Int) := by omega
      obtain rfl : j = o.length := by omega
      obtain ⟨-, -, hio, hpw⟩ := hst.out wr hkc
      have hL1 := hid (lack_to hcu hio (p := 5) rfl hfw (by omega) (an_lack1 ma o))
      have hS1 := hid (fun W (hW : Pure wr W) => (show Calls _ _ _ _ _ from by have := cusafe_any n c (an1 ma o o.length) 5 _ o W (hcu.pure hW) (Row.pure hio hW) rfl hfw (by omega); rw [an_lack1] at this; exact this))
      have Hkc := hid hkc
      have Hcu := hid hcu
      clear hcu hkc hio hpw
      have hsm := hid (an_some ma o o.length)
      generalize hA1 : an1 ma o o.length = A1 at *
      have HA1 := hid hA1
      clear hA1
      rw [hsm.out] at hS1
      go_wp2_with fail
      refine hL1.out.mono ?_
      rintro e w8 ⟨a8, c8, rfl, -, hp8⟩
      have Hp8 := hid hp8
      clear hp8
      go_wp2_with fail
      refine (hS1.out w8 Hp8.out).mono ?_
      rintro e w9 ⟨rfl, hp9⟩
      have Hk9 := hid (Hkc.out.trans (KC.pure (Hp8.out.then_ hp9)))
      have Hc9 := hid (Hcu.out.pure (Hp8.out.then_ hp9))
      clear hp9
      obtain ⟨-, ⟨f0, f1, f2, -⟩, -, -⟩ := hst.out w9 Hk9.out
      go_wp2_with fail
      refine (hK3.out w9 Hk9.out Hc9.out).mono ?_
      rintro e w10 ⟨rfl, hc10, hk10⟩
      have Hk10 := hid (Hk9.out.trans hk10)
      have Hc10 := hid hc10
      clear hk10 hc10 f0 f1 f2 hK3 hL1 hS1
      obtain ⟨-, -, hio, -⟩ := hst.out w10 Hk10.out
      have hS3 := hid (show Calls _ _ _ _ _ from by have := cusafe_any n c [(5, mb, [])] 5 _ o w10 Hc10.out hio rfl hfw (by omega); rw [an_lack2, show decide ((dd o).length = 0) = decide (o.length = 0) from decide_eq_decide.2 (dd_len0 o)] at this; exact this)
      clear hio
      have z2 : ((o.length : Int) == 0) = decide (o.length = 0) := by by_cases h : o.length = 0 <;> simp [h] <;> omega
      have hcf := hid (show (cfind [((5 : Int), mb, ([] : List Int))] 5).isSome = true from rfl)
      rw [hcf.out, Bool.true_and] at hS3
      generalize hZ : decide (o.length = 0) = Z at *
      clear hZ
      go_wp2_with fail
      refine hS3.out.mono ?_
      rintro e w11 ⟨rfl, hp11⟩
      have Hk11 := hid (Hk10.out.trans (KC.pure hp11))
      have Ha2 := hid (show an2 mb o H 0 = [(5, mb, [])] from rfl)
      rw [← Ha2.out] at Hc10
      have Hc11 := hid (Hc10.out.pure hp11)
      clear hp11 hS3
      have hlb : H.length ≤ 9223372036854775807 := by have := (HH.out w (Below.refl _ _)).le; have := (HH.out w (Below.refl _ _)).cap_le; unfold maxLen at this; omega
      go_wp2
      go_loopw [13] (fun i wr => ∃ j : Nat, j ≤ o.length ∧ j ≤ H.length ∧ i = .int .i64 j ∧ Cu wr n c (an2 mb o H j) ∧ KC n c w4 wr) (fun i _ => o.length - (RowKit.intOf i).toNat)
      case atStart => exact ⟨0, Nat.zero_le _, Nat.zero_le _, rfl, Hc11.out, Hk11.out⟩
      case round =>
        obtain ⟨j, hj1, hj2, rfl, hcu, hkc⟩ := hrel
        by_cases hlt : j < o.length ∧ j < H.length
        · obtain ⟨lt1, lt2⟩ := hlt
          have lt1' : (j : Int) < (o.length : Int) := by omega
          have lt2' : (j : Int) < (H.length : Int) := by omega
          obtain ⟨bh, oh, rfl, -, hhx⟩ := (HH.out wr (hst.out wr hkc).2.2.2).cell j lt2
          obtain ⟨bo, oo, rfl, -, -⟩ := ints_get_j (hst.out wr hkc).2.2.1 lt1
          have wx := hfw.get lt1
          have hskip := hid (an_skip mb o H j lt1 lt2)
          have hhd' := hid (an_heard2 mb o H j lt1 lt2)
          cases hB : H.getD j false with
          | false =>
            rw [hB] at hhx
            have Hsk := hid (hskip.out hB)
            have Hcu := hid hcu
            have Hkc := hid hkc
            clear hcu hkc hB hskip hhd'
            go_wp2
            go_roundw
            case rel => exact ⟨j + 1, by omega, by omega, by go_num, by rw [← Hsk.out]; exact Hcu.out, Hkc.out⟩
            case measure => simp [RowKit.intOf]; omega
          | true =>
            rw [hB] at hhx
            have Hhd := hid (hhd'.out hB)
            clear hskip hhd' hB
            have hS : Hid (∀ W, KC n c w4 W → (W.cell? ⟨bo, oo + j, none⟩ = some (.int .i64 (o.getD j 0)) ∧ (W.cell? ⟨X, 0, none⟩ = some (.slice p0 n0 s0) ∧ W.cell? ⟨X, 1, none⟩ = some (.slice p1 n1 s1) ∧ W.cell? ⟨X, 2, none⟩ = some (.slice p2 n2 s2)) ∧ (W.cell? ⟨Y, 0, none⟩ = some (.slice r0 m0 t0) ∧ W.cell? ⟨Y, 1, none⟩ = some (.slice r1 m1 t1) ∧ W.cell? ⟨Y, 2, none⟩ = some (.slice r2 m2 t2)) ∧ KC n c w4 W)) := fun W hW => by
              obtain ⟨⟨g0, g1, g2, _⟩, ⟨y0, y1, y2, _⟩, gi, _⟩ := hst.out W hW
              obtain ⟨b', o', e', _, hx⟩ := ints_get_j gi lt1
              cases e'
              exact ⟨hx, ⟨g0, g1, g2⟩, ⟨y0, y1, y2⟩, hW⟩
            have hS2 : Hid (∀ W : World, (W.cell? ⟨bo, oo + j, none⟩ = some (.int .i64 (o.getD j 0)) ∧ (W.cell? ⟨X, 0, none⟩ = some (.slice p0 n0 s0) ∧ W.cell? ⟨X, 1, none⟩ = some (.slice p1 n1 s1) ∧ W.cell? ⟨X, 2, none⟩ = some (.slice p2 n2 s2)) ∧ (W.cell? ⟨Y, 0, none⟩ = some (.slice r0 m0 t0) ∧ W.cell? ⟨Y, 1, none⟩ = some (.slice r1 m1 t1) ∧ W.cell? ⟨Y, 2, none⟩ = some (.slice r2 m2 t2)) ∧ KC n c w4 W) → KC n c w4 W) := fun W h => h.2.2.2
            have hh1 := hid (fun W hC => cuheard_any n c (an2 mb o H j) 5 (o.getD j 0) mb W hC rfl wx)
            have hh2 := hid (fun W (hC : Cu W n c (an2 mb o H (j + 1))) => heard_to (w := W) hC (p := 5) (node := o.getD j 0) rfl wx (an_heard3 mb ma o H (j + 1) (o.getD j 0) (Ne.symm Hm.out)))
            rw [Hhd.out] at hh1
            generalize (cheard (an2 mb o H j) 5 (o.getD j 0) mb).2 = b2 at *
            clear Hhd
            generalize an2 mb o H j = S1 at *
            generalize hSe : an2 mb o H (j + 1) = S2 at *
            have HSe := hid hSe
            clear hSe
            generalize o.getD j 0 = x at *
            generalize bs ma = MA at *
            generalize bs mb = MB at *
            have hC0 : Cu wr.drew n c S1 := hcu.pure (Below.refl _ _).drew
            have hst0 := hid (hS.out wr.drew (hkc.trans (KC.pure (Below.refl _ _).drew)))
            clear hkc hcu
            go_wp2_with fail
            go_region_held3 (fun W => W.cell? ⟨bo, oo + j, none⟩ = some (.int .i64 x) ∧ (W.cell? ⟨X, 0, none⟩ = some (.slice p0 n0 s0) ∧ W.cell? ⟨X, 1, none⟩ = some (.slice p1 n1 s1) ∧ W.cell? ⟨X, 2, none⟩ = some (.slice p2 n2 s2)) ∧ (W.cell? ⟨Y, 0, none⟩ = some (.slice r0 m0 t0) ∧ W.cell? ⟨Y, 1, none⟩ = some (.slice r1 m1 t1) ∧ W.cell? ⟨Y, 2, none⟩ = some (.slice r2 m2 t2)) ∧ KC n c w4 W)
              (first | with_reducible exact hst0.out | with_reducible exact hS.out _ (KC.trans (hS2.out _ (by assumption)) (KC.pure (by assumption))) | with_reducible exact hS.out _ (KC.trans (hS2.out _ (by assumption)) (by assumption)))
              (first
                | (go_at_call 14; with_reducible refine (hbmY.out _ (hS2.out _ (by assumption))).mono ?_; rintro e w12 ⟨rfl, hp12⟩; have hC12 : Cu w12 n c S1 := Cu.pure (by assumption) hp12)
                | (go_at_call 13; with_reducible refine (hh1.out _ (by assumption)).mono ?_; rintro e w12 ⟨rfl, hC13, hk13⟩))
            have HC13 := hid hC13
            have Hk13 := hid (hS2.out w12 (by assumption))
            clear hC13 hk13 hst0 hC0
            have hC0 : Cu w12.drew n c S2 := HC13.out.pure (Below.refl _ _).drew
            have hst0 := hid (hS.out w12.drew (Hk13.out.trans (KC.pure (Below.refl _ _).drew)))
            go_wp2_with fail
            go_region_held3 (fun W => W.cell? ⟨bo, oo + j, none⟩ = some (.int .i64 x) ∧ (W.cell? ⟨X, 0, none⟩ = some (.slice p0 n0 s0) ∧ W.cell? ⟨X, 1, none⟩ = some (.slice p1 n1 s1) ∧ W.cell? ⟨X, 2, none⟩ = some (.slice p2 n2 s2)) ∧ (W.cell? ⟨Y, 0, none⟩ = some (.slice r0 m0 t0) ∧ W.cell? ⟨Y, 1, none⟩ = some (.slice r1 m1 t1) ∧ W.cell? ⟨Y, 2, none⟩ = some (.slice r2 m2 t2)) ∧ KC n c w4 W)
              (first | with_reducible exact hst0.out | with_reducible exact hS.out _ (KC.trans (hS2.out _ (by assumption)) (KC.pure (by assumption))) | with_reducible exact hS.out _ (KC.trans (hS2.out _ (by assumption)) (by assumption)))
              (first
                | (go_at_call 14; with_reducible refine (hbmX.out _ (hS2.out _ (by assumption))).mono ?_; rintro e w14 ⟨rfl, hp14⟩; have hC14 : Cu w14 n c S2 := Cu.pure (by assumption) hp14)
                | (go_at_call 13; with_reducible refine (hh2.out _ (by assumption)).mono ?_; rintro e w14 ⟨rfl, hC15, hk15⟩))
            have HC15 := hid hC15
            have Hk15 := hid (hS2.out w14 (by assumption))
            clear hC15 hk15 hst0 hC0
            go_wp2
            go_roundw
            case rel => exact ⟨j + 1, by omega, by omega, by go_num, by rw [HSe.out]; exact HC15.out, Hk15.out⟩
            case measure => simp [RowKit.intOf]; omega
        · obtain ⟨N, hN⟩ : ∃ N, N = j := ⟨_, rfl⟩
          rw [← hN] at hj1 hj2 hlt hcu ⊢
          clear hN
          have hend : ¬ (N < o.length ∧ N < H.length) := hlt
          obtain ⟨-, -, hio, hpw⟩ := hst.out wr hkc
          have hL3 := hid (lack_to hcu hio (p := 5) rfl hfw (by omega) (an_lack3 mb o H N))
          have hMk := hid (fun W (hW : Pure wr W) => (show Calls _ _ _ _ _ from by have := cumark_any n c (an2 mb o H N) 5 W (hcu.pure hW) rfl; rw [show cmark (an2 mb o H N) 5 = mb from rfl] at this; exact this))
          have Hkc := hid hkc
          have HP := hid hpw
          have hLl : (anL o H N).length ≤ 8 := by
            unfold anL
            exact Nat.le_trans (dd_len _) (Nat.le_trans (List.length_filter_le _ _) hfl)
          have hmem := hid (fun x hx => anL_mem o H N x hx)
          have hHs := hid (fun x => anH_hs o H x N)
          clear hcu hkc hio hpw
          generalize anL o H N = L at *
          by_cases hN1 : N < o.length
          · have hN2 : ¬ N < H.length := fun h => hend ⟨hN1, h⟩
            have e1 : ((N : Int) < (o.length : Int)) := by omega
            have e2 : ¬ ((N : Int) < (H.length : Int)) := by omega
            go_wp2_with fail
            refine hL3.out.mono ?_
            rintro e w20 ⟨a20, c20, rfl, hown, hp20⟩
            have HL := hid (show Ints w20 (.slice a20 L.length c20) L from by have := Row.of_own hown; unfold Ints; exact this)
            have Hp20 := hid hp20
            clear hown hp20 e1
            have Hall := hid (fun W (hW : Pure w20 W) => (show Ints W (.slice ao o.length co) o ∧ BoolsAt W ah H.length ch H ∧ Ints W (.slice a20 L.length c20) L ∧ (W.cell? ⟨Y, 0, none⟩ = some (.slice r0 m0 t0) ∧ W.cell? ⟨Y, 1, none⟩ = some (.slice r1 m1 t1) ∧ W.cell? ⟨Y, 2, none⟩ = some (.slice r2 m2 t2)) ∧ KC n c w4 W ∧ Pure w W from by
              have hk' := Hkc.out.trans (KC.pure (Hp20.out.then_ hW))
              obtain ⟨_, ⟨y0, y1, y2, _⟩, gi, gp⟩ := hst.out W hk'
              exact ⟨gi, HH.out W gp, Row.pure HL.out hW, ⟨y0, y1, y2⟩, hk', gp⟩))
            go_wp2
            go_loopw [15, 16, 17, 18, 19] (fun i _ _ _ _ wr => ∃ j : Nat, j ≤ o.length ∧ i = .int .i64 j ∧ Pure w20 wr) (fun i _ _ _ _ _ => o.length - (RowKit.intOf i).toNat)
            case atStart => exact ⟨0, Nat.zero_le _, rfl, Below.refl _ _⟩
            case round =>
              obtain ⟨j, hj, rfl, hpj⟩ := hrel
              obtain ⟨wo, rfl⟩ : ∃ wo : World, wo = wr := ⟨_, rfl⟩
              by_cases hlt : j < o.length
              · have hlt' : (j : Int) < (o.length : Int) := by omega
                obtain ⟨bo, oo, rfl, -, -⟩ := ints_get_j (Hall.out wo hpj).1 hlt
                have hcx : Hid (∀ W, Pure w20 W → W.cell? ⟨bo, oo + j, none⟩ = some (.int .i64 (o.getD j 0))) := fun W hW => by
                  obtain ⟨b', o', e', _, hx⟩ := ints_get_j (Hall.out W hW).1 hlt
                  cases e'
                  exact hx
                have hxm := hid (hmem.out (o.getD j 0) (by simp [List.getD, hlt]))
                have hxh := hid (hHs.out (o.getD j 0))
                have Hpj := hid hpj
                clear hpj
                generalize o.getD j 0 = x at *
                go_wp2
                go_loopw [16, 17] (fun hd i wr => ∃ k : Nat, k ≤ o.length ∧ k ≤ H.length ∧ i = .int .i64 k ∧ hd = .bool (anH o H x k) ∧ Pure w20 wr) (fun _ i _ => o.length - (RowKit.intOf i).toNat)
                case atStart => exact ⟨0, Nat.zero_le _, Nat.zero_le _, rfl, by simp [anH], Hpj.out⟩
                case round =>
                  obtain ⟨k, hk1, hk2, rfl, rfl, hpk⟩ := hrel
                  by_cases hlk : k < o.length ∧ k < H.length
                  · obtain ⟨lk1, lk2⟩ := hlk
                    have lk1' : (k : Int) < (o.length : Int) := by omega
                    have lk2' : (k : Int) < (H.length : Int) := by omega
                    obtain ⟨bh, oh, rfl, -, hhx⟩ := (Hall.out wr hpk).2.1.cell k lk2
                    obtain ⟨b', o', e', -, hok⟩ := ints_get_j (Hall.out wr hpk).1 lk1
                    cases e'
                    have hcj := hcx.out wr hpk
                    have Hst := hid (anH_take o H x k lk1 lk2)
                    have Hpk := hid hpk
                    clear hpk
                    generalize o.getD k 0 = y at *
                    generalize H.getD k false = B at *
                    generalize anH o H x k = A at *
                    have hyx : (y == x) = true ∨ (y == x) = false := by cases (y == x) <;> simp
                    cases A with
                    | true =>
                      go_wp2_with fail
                      go_quiet (fail)
                      go_wp2
                      go_roundw
                      case rel => exact ⟨k + 1, by omega, by omega, by go_num, by rw [Hst.out]; simp, Hpk.out.then_ (pure_drewN _ _)⟩
                      case measure => simp [RowKit.intOf]; omega
                    | false =>
                      cases B with
                      | false =>
                        go_wp2_with fail
                        go_quiet (fail)
                        go_wp2
                        go_roundw
                        case rel => exact ⟨k + 1, by omega, by omega, by go_num, by rw [Hst.out]; simp, Hpk.out.then_ (pure_drewN _ _)⟩
                        case measure => simp [RowKit.intOf]; omega
                      | true =>
                        rcases hyx with hyx | hyx
                        · have Hyx := hid hyx
                          go_wp2_with fail
                          go_quiet (fail)
                          go_wp2
                          go_roundw
                          case rel => exact ⟨k + 1, by omega, by omega, by go_num, by rw [Hst.out, Hyx.out]; rfl, Hpk.out.then_ (pure_drewN _ _)⟩
                          case measure => simp [RowKit.intOf]; omega
                        · have Hyx := hid hyx
                          go_wp2_with fail
                          go_quiet (fail)
                          go_wp2
                          go_roundw
                          case rel => exact ⟨k + 1, by omega, by omega, by go_num, by rw [Hst.out, Hyx.out]; rfl, Hpk.out.then_ (pure_drewN _ _)⟩
                          case measure => simp [RowKit.intOf]; omega
                  · obtain rfl : k = N := by omega
                    rw [hxh.out]
                    have Hpk := hid hpk
                    clear hpk
                    have e1 : (k : Int) < (o.length : Int) := by omega
                    have e2 : ¬ (k : Int) < (H.length : Int) := by omega
                    obtain ⟨wk, rfl⟩ : ∃ wk : World, wk = wr := ⟨_, rfl⟩
                    have hxm' := hid hxm.out
                    generalize decide (x ∈ hs o H k) = D at *
                    go_wp2
                    go_loopw [18, 19] (fun lc i wr => ∃ t : Nat, t ≤ L.length ∧ i = .int .i64 t ∧ lc = .bool (anT L x t) ∧ Pure w20 wr) (fun _ i _ => L.length - (RowKit.intOf i).toNat)
                    case atStart => exact ⟨0, Nat.zero_le _, rfl, by simp [anT], Hpk.out⟩
                    case round =>
                      obtain ⟨t, ht, rfl, rfl, hpt⟩ := hrel
                      by_cases hlt2 : t < L.length
                      · have hlt2' : (t : Int) < (L.length : Int) := by omega
                        obtain ⟨bl, ol, rfl, -, hlx⟩ := ints_get_j (Hall.out wr hpt).2.2.1 hlt2
                        have hcj := hcx.out wr hpt
                        have Hst := hid (anT_take L x t hlt2)
                        have Hpt := hid hpt
                        clear hpt e1
                        generalize L.getD t 0 = y at *
                        generalize anT L x t = A at *
                        have hyx : (y == x) = true ∨ (y == x) = false := by cases (y == x) <;> simp
                        cases A with
                        | true =>
                          go_wp2_with fail
                          go_quiet (fail)
                          go_wp2
                          go_roundw
                          case rel => exact ⟨t + 1, by omega, by go_num, by rw [Hst.out]; simp, Hpt.out.then_ (pure_drewN _ _)⟩
                          case measure => simp [RowKit.intOf]; omega
                        | false =>
                          rcases hyx with hyx | hyx
                          · have Hyx := hid hyx
                            go_wp2_with fail
                            go_quiet (fail)
                            go_wp2
                            go_roundw
                            case rel => exact ⟨t + 1, by omega, by go_num, by rw [Hst.out, Hyx.out]; rfl, Hpt.out.then_ (pure_drewN _ _)⟩
                            case measure => simp [RowKit.intOf]; omega
                          · have Hyx := hid hyx
                            go_wp2_with fail
                            go_quiet (fail)
                            go_wp2
                            go_roundw
                            case rel => exact ⟨t + 1, by omega, by go_num, by rw [Hst.out, Hyx.out]; rfl, Hpt.out.then_ (pure_drewN _ _)⟩
                            case measure => simp [RowKit.intOf]; omega
                      · have hlt2' : ¬ (t : Int) < (L.length : Int) := by omega
                        have hT : anT L x t = !D := by unfold anT; rw [List.take_of_length_le (by omega)]; exact hxm'.out
                        rw [hT]
                        have Hpt := hid hpt
                        clear hpt hT e1
                        cases D <;>
                        · go_wp2
                          go_roundw
                          case rel => exact ⟨j + 1, by omega, by go_num, Hpt.out⟩
                          case measure => simp [RowKit.intOf]; omega
              · have hlt' : ¬ (j : Int) < (o.length : Int) := by omega
                have Hpj := hid hpj
                clear hpj
                have hS : Hid (∀ W, Pure w20 W → (W.cell? ⟨Y, 0, none⟩ = some (.slice r0 m0 t0) ∧ W.cell? ⟨Y, 1, none⟩ = some (.slice r1 m1 t1) ∧ W.cell? ⟨Y, 2, none⟩ = some (.slice r2 m2 t2) ∧ Pure w20 W)) := fun W hW => by
                  obtain ⟨_, _, _, ⟨y0, y1, y2⟩, _⟩ := Hall.out W hW
                  exact ⟨y0, y1, y2, hW⟩
                have hS2 : Hid (∀ W : World, (W.cell? ⟨Y, 0, none⟩ = some (.slice r0 m0 t0) ∧ W.cell? ⟨Y, 1, none⟩ = some (.slice r1 m1 t1) ∧ W.cell? ⟨Y, 2, none⟩ = some (.slice r2 m2 t2) ∧ Pure w20 W) → Pure w20 W) := fun W h => h.2.2.2
                have hst0 := hid (hS.out wo.drew (Hpj.out.then_ (Below.refl _ _).drew))
                have hmk := hid (fun W (hW : Pure w20 W) => hMk.out W (Hp20.out.then_ hW))
                have hby := hid (fun W (hW : Pure w20 W) => hbmY.out W (Hall.out W hW).2.2.2.2.1)
                generalize bs mb = MB at *
                go_wp2_with fail
                go_region_held3 (fun W => W.cell? ⟨Y, 0, none⟩ = some (.slice r0 m0 t0) ∧ W.cell? ⟨Y, 1, none⟩ = some (.slice r1 m1 t1) ∧ W.cell? ⟨Y, 2, none⟩ = some (.slice r2 m2 t2) ∧ Pure w20 W)
                  (first | with_reducible exact hst0.out | with_reducible exact hS.out _ (Pure.then_ (hS2.out _ (by assumption)) (by assumption)) | assumption)
                  (first
                    | (go_at_call 14; with_reducible refine (hby.out _ (hS2.out _ (by assumption))).mono ?_; rintro e w30 ⟨rfl, hp30⟩)
                    | (go_at_call 17; with_reducible refine (hmk.out _ (hS2.out _ (by assumption))).mono ?_; rintro e w31 ⟨rfl, rfl⟩))
                have Hf := hid (Hall.out w30 (hS2.out w30 (by assumption))).2.2.2.2.2
                clear hp30 hst0
                go_wp2
                go_ret
                exact ⟨rfl, Hf.out⟩
          · have e1 : ¬ ((N : Int) < (o.length : Int)) := by omega
            go_wp2_with fail
            refine hL3.out.mono ?_
            rintro e w20 ⟨a20, c20, rfl, hown, hp20⟩
            have HL := hid (show Ints w20 (.slice a20 L.length c20) L from by have := Row.of_own hown; unfold Ints; exact this)
            have Hp20 := hid hp20
            clear hown hp20 e1
            have Hall := hid (fun W (hW : Pure w20 W) => (show Ints W (.slice ao o.length co) o ∧ BoolsAt W ah H.length ch H ∧ Ints W (.slice a20 L.length c20) L ∧ (W.cell? ⟨Y, 0, none⟩ = some (.slice r0 m0 t0) ∧ W.cell? ⟨Y, 1, none⟩ = some (.slice r1 m1 t1) ∧ W.cell? ⟨Y, 2, none⟩ = some (.slice r2 m2 t2)) ∧ KC n c w4 W ∧ Pure w W from by
              have hk' := Hkc.out.trans (KC.pure (Hp20.out.then_ hW))
              obtain ⟨_, ⟨y0, y1, y2, _⟩, gi, gp⟩ := hst.out W hk'
              exact ⟨gi, HH.out W gp, Row.pure HL.out hW, ⟨y0, y1, y2⟩, hk', gp⟩))
            go_wp2
            go_loopw [15, 16, 17, 18, 19] (fun i _ _ _ _ wr => ∃ j : Nat, j ≤ o.length ∧ i = .int .i64 j ∧ Pure w20 wr) (fun i _ _ _ _ _ => o.length - (RowKit.intOf i).toNat)
            case atStart => exact ⟨0, Nat.zero_le _, rfl, Below.refl _ _⟩
            case round =>
              obtain ⟨j, hj, rfl, hpj⟩ := hrel
              obtain ⟨wo, rfl⟩ : ∃ wo : World, wo = wr := ⟨_, rfl⟩
              by_cases hlt : j < o.length
              · have hlt' : (j : Int) < (o.length : Int) := by omega
                obtain ⟨bo, oo, rfl, -, -⟩ := ints_get_j (Hall.out wo hpj).1 hlt
                have hcx : Hid (∀ W, Pure w20 W → W.cell? ⟨bo, oo + j, none⟩ = some (.int .i64 (o.getD j 0))) := fun W hW => by
                  obtain ⟨b', o', e', _, hx⟩ := ints_get_j (Hall.out W hW).1 hlt
                  cases e'
                  exact hx
                have hxm := hid (hmem.out (o.getD j 0) (by simp [List.getD, hlt]))
                have hxh := hid (hHs.out (o.getD j 0))
                have Hpj := hid hpj
                clear hpj
                generalize o.getD j 0 = x at *
                go_wp2
                go_loopw [16, 17] (fun hd i wr => ∃ k : Nat, k ≤ o.length ∧ k ≤ H.length ∧ i = .int .i64 k ∧ hd = .bool (anH o H x k) ∧ Pure w20 wr) (fun _ i _ => o.length - (RowKit.intOf i).toNat)
                case atStart => exact ⟨0, Nat.zero_le _, Nat.zero_le _, rfl, by simp [anH], Hpj.out⟩
                case round =>
                  obtain ⟨k, hk1, hk2, rfl, rfl, hpk⟩ := hrel
                  by_cases hlk : k < o.length ∧ k < H.length
                  · obtain ⟨lk1, lk2⟩ := hlk
                    have lk1' : (k : Int) < (o.length : Int) := by omega
                    have lk2' : (k : Int) < (H.length : Int) := by omega
                    obtain ⟨bh, oh, rfl, -, hhx⟩ := (Hall.out wr hpk).2.1.cell k lk2
                    obtain ⟨b', o', e', -, hok⟩ := ints_get_j (Hall.out wr hpk).1 lk1
                    cases e'
                    have hcj := hcx.out wr hpk
                    have Hst := hid (anH_take o H x k lk1 lk2)
                    have Hpk := hid hpk
                    clear hpk
                    generalize o.getD k 0 = y at *
                    generalize H.getD k false = B at *
                    generalize anH o H x k = A at *
                    have hyx : (y == x) = true ∨ (y == x) = false := by cases (y == x) <;> simp
                    cases A with
                    | true =>
                      go_wp2_with fail
                      go_quiet (fail)
                      go_wp2
                      go_roundw
                      case rel => exact ⟨k + 1, by omega, by omega, by go_num, by rw [Hst.out]; simp, Hpk.out.then_ (pure_drewN _ _)⟩
                      case measure => simp [RowKit.intOf]; omega
                    | false =>
                      cases B with
                      | false =>
                        go_wp2_with fail
                        go_quiet (fail)
                        go_wp2
                        go_roundw
                        case rel => exact ⟨k + 1, by omega, by omega, by go_num, by rw [Hst.out]; simp, Hpk.out.then_ (pure_drewN _ _)⟩
                        case measure => simp [RowKit.intOf]; omega
                      | true =>
                        rcases hyx with hyx | hyx
                        · have Hyx := hid hyx
                          go_wp2_with fail
                          go_quiet (fail)
                          go_wp2
                          go_roundw
                          case rel => exact ⟨k + 1, by omega, by omega, by go_num, by rw [Hst.out, Hyx.out]; rfl, Hpk.out.then_ (pure_drewN _ _)⟩
                          case measure => simp [RowKit.intOf]; omega
                        · have Hyx := hid hyx
                          go_wp2_with fail
                          go_quiet (fail)
                          go_wp2
                          go_roundw
                          case rel => exact ⟨k + 1, by omega, by omega, by go_num, by rw [Hst.out, Hyx.out]; rfl, Hpk.out.then_ (pure_drewN _ _)⟩
                          case measure => simp [RowKit.intOf]; omega
                  · obtain rfl : k = N := by omega
                    rw [hxh.out]
                    have Hpk := hid hpk
                    clear hpk
                    have e1 : ¬ (k : Int) < (o.length : Int) := by omega
                    obtain ⟨wk, rfl⟩ : ∃ wk : World, wk = wr := ⟨_, rfl⟩
                    have hxm' := hid hxm.out
                    generalize decide (x ∈ hs o H k) = D at *
                    go_wp2
                    go_loopw [18, 19] (fun lc i wr => ∃ t : Nat, t ≤ L.length ∧ i = .int .i64 t ∧ lc = .bool (anT L x t) ∧ Pure w20 wr) (fun _ i _ => L.length - (RowKit.intOf i).toNat)
                    case atStart => exact ⟨0, Nat.zero_le _, rfl, by simp [anT], Hpk.out⟩
                    case round =>
                      obtain ⟨t, ht, rfl, rfl, hpt⟩ := hrel
                      by_cases hlt2 : t < L.length
                      · have hlt2' : (t : Int) < (L.length : Int) := by omega
                        obtain ⟨bl, ol, rfl, -, hlx⟩ := ints_get_j (Hall.out wr hpt).2.2.1 hlt2
                        have hcj := hcx.out wr hpt
                        have Hst := hid (anT_take L x t hlt2)
                        have Hpt := hid hpt
                        clear hpt e1
                        generalize L.getD t 0 = y at *
                        generalize anT L x t = A at *
                        have hyx : (y == x) = true ∨ (y == x) = false := by cases (y == x) <;> simp
                        cases A with
                        | true =>
                          go_wp2_with fail
                          go_quiet (fail)
                          go_wp2
                          go_roundw
                          case rel => exact ⟨t + 1, by omega, by go_num, by rw [Hst.out]; simp, Hpt.out.then_ (pure_drewN _ _)⟩
                          case measure => simp [RowKit.intOf]; omega
                        | false =>
                          rcases hyx with hyx | hyx
                          · have Hyx := hid hyx
                            go_wp2_with fail
                            go_quiet (fail)
                            go_wp2
                            go_roundw
                            case rel => exact ⟨t + 1, by omega, by go_num, by rw [Hst.out, Hyx.out]; rfl, Hpt.out.then_ (pure_drewN _ _)⟩
                            case measure => simp [RowKit.intOf]; omega
                          · have Hyx := hid hyx
                            go_wp2_with fail
                            go_quiet (fail)
                            go_wp2
                            go_roundw
                            case rel => exact ⟨t + 1, by omega, by go_num, by rw [Hst.out, Hyx.out]; rfl, Hpt.out.then_ (pure_drewN _ _)⟩
                            case measure => simp [RowKit.intOf]; omega
                      · have hlt2' : ¬ (t : Int) < (L.length : Int) := by omega
                        have hT : anT L x t = !D := by unfold anT; rw [List.take_of_length_le (by omega)]; exact hxm'.out
                        rw [hT]
                        have Hpt := hid hpt
                        clear hpt hT e1
                        cases D <;>
                        · go_wp2
                          go_roundw
                          case rel => exact ⟨j + 1, by omega, by go_num, Hpt.out⟩
                          case measure => simp [RowKit.intOf]; omega
              · have hlt' : ¬ (j : Int) < (o.length : Int) := by omega
                have Hpj := hid hpj
                clear hpj
                have hS : Hid (∀ W, Pure w20 W → (W.cell? ⟨Y, 0, none⟩ = some (.slice r0 m0 t0) ∧ W.cell? ⟨Y, 1, none⟩ = some (.slice r1 m1 t1) ∧ W.cell? ⟨Y, 2, none⟩ = some (.slice r2 m2 t2) ∧ Pure w20 W)) := fun W hW => by
                  obtain ⟨_, _, _, ⟨y0, y1, y2⟩, _⟩ := Hall.out W hW
                  exact ⟨y0, y1, y2, hW⟩
                have hS2 : Hid (∀ W : World, (W.cell? ⟨Y, 0, none⟩ = some (.slice r0 m0 t0) ∧ W.cell? ⟨Y, 1, none⟩ = some (.slice r1 m1 t1) ∧ W.cell? ⟨Y, 2, none⟩ = some (.slice r2 m2 t2) ∧ Pure w20 W) → Pure w20 W) := fun W h => h.2.2.2
                have hst0 := hid (hS.out wo.drew (Hpj.out.then_ (Below.refl _ _).drew))
                have hmk := hid (fun W (hW : Pure w20 W) => hMk.out W (Hp20.out.then_ hW))
                have hby := hid (fun W (hW : Pure w20 W) => hbmY.out W (Hall.out W hW).2.2.2.2.1)
                generalize bs mb = MB at *
                go_wp2_with fail
                go_region_held3 (fun W => W.cell? ⟨Y, 0, none⟩ = some (.slice r0 m0 t0) ∧ W.cell? ⟨Y, 1, none⟩ = some (.slice r1 m1 t1) ∧ W.cell? ⟨Y, 2, none⟩ = some (.slice r2 m2 t2) ∧ Pure w20 W)
                  (first | with_reducible exact hst0.out | with_reducible exact hS.out _ (Pure.then_ (hS2.out _ (by assumption)) (by assumption)) | assumption)
                  (first
                    | (go_at_call 14; with_reducible refine (hby.out _ (hS2.out _ (by assumption))).mono ?_; rintro e w30 ⟨rfl, hp30⟩)
                    | (go_at_call 17; with_reducible refine (hmk.out _ (hS2.out _ (by assumption))).mono ?_; rintro e w31 ⟨rfl, rfl⟩))
                have Hf := hid (Hall.out w30 (hS2.out w30 (by assumption))).2.2.2.2.2
                clear hp30 hst0
                go_wp2
                go_ret
                exact ⟨rfl, Hf.out⟩
end Go.Proofs.Ytofengnbedebpaa
