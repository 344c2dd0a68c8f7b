/- law18's CustodyPlays: the walk. -/
import Derived.Test.YtofengnbedebpaaM18b
namespace Go.Proofs.Ytofengnbedebpaa
open Go.RowKit Go.Maps Go.MapKept

set_option maxRecDepth 100000 in
set_option maxHeartbeats 8000000 in
theorem custodyPlays_walk (a : Option Addr) (len cap : Nat) (L : List CStep) (vo : Value) (O : List Int) (w : World) (hr : StepsAt w a len cap L) (ho : Ints w vo O) (hwo : AllWf O) :
    Calls Try.prog 6 #[.slice a len cap, vo] w fun e w' => e = .returned (.bool true) ∧ Pure w w' := by
  obtain ⟨av, cv, rfl⟩ := ho.shape
  have Hr := hid hr
  have Ho := hid ho
  have hll : len ≤ maxLen := hr.2.1
  unfold maxLen at hll
  clear hr ho
  go_enter Try.func6, Try.ntmps6
  go_wp2_with fail
  refine (awake_any w).mono ?_
  rintro e w1 ⟨rfl, hp1⟩
  have Ho1 := hid (show Ints w1 (.slice av O.length cv) O from Row.pure Ho.out hp1)
  have Hp1 := hid hp1
  clear hp1
  go_wp2_with fail
  refine (few_any _ O w1 Ho1.out).mono ?_
  rintro e w1' ⟨vf, rfl, hf, _, rfl⟩
  have Hf := hid hf
  obtain ⟨af, cf, rfl⟩ := hf.shape
  clear hf
  have Hfw := hid (few_wf hwo)
  have Hfl := hid (few_le O)
  generalize few O = F at *
  obtain ⟨n, hn⟩ : ∃ n, n = w1.heap.size := ⟨_, rfl⟩
  obtain ⟨c, hc⟩ : ∃ c, c = w1.heap.size + 2 := ⟨_, rfl⟩
  have Hnew := hid (cunew_to w1 hn hc)
  have Hn := hid (And.intro hn hc)
  clear hn hc
  go_wp2_with fail
  refine Hnew.out.mono ?_
  rintro e w2 ⟨rfl, hc2, hp2⟩
  have Hc2 := hid hc2
  have Hp2 := hid hp2
  have HF2 := hid (show Ints w2 (.slice af F.length cf) F from Row.pure Hf.out hp2)
  obtain ⟨r, hr⟩ : ∃ r, r = w2.heap.size := ⟨_, rfl⟩
  have hcr : Hid (c < r ∧ w.heap.size ≤ n ∧ w1.heap.size = n ∧ w.heap.size ≤ r) := by
    obtain ⟨h1, h2⟩ := Hn.out
    obtain ⟨mb, hb, bl, h⟩ := hc2
    have := lt_of_block h.blk
    have := Hp1.out.size
    exact ⟨by omega, by omega, h1.symm, by omega⟩
  clear hc2 hp2
  obtain ⟨wm, hwm⟩ : ∃ wm, wm = w2.alloc (.cells #[.slice none 0 0] 54) := ⟨_, rfl⟩
  have Hpm := hid (show Pure w2 wm from by rw [hwm]; exact (Below.refl _ _).alloc (Nat.le_refl _) _)
  have Hrm := hid (show RIn wm r [] from by rw [hwm, hr]; exact RIn.nil)
  have hcp0 := hid (show CP w1 n c r 0 [] [] wm from ⟨Hc2.out.pure Hpm.out, Hrm.out, CI.nil, MOk.nil, Hp2.out.then_ Hpm.out⟩)
  go_wp2
  rw [← hwm, ← hr]
  clear hwm hr
  go_loopw [9, 10, 11, 12, 13, 14, 15, 16, 17, 18, 19] (fun i _ _ _ _ _ _ _ _ _ _ wr => ∃ (j : Nat) (S R : CuS), j ≤ len ∧ j ≤ 40 ∧ i = .int .i64 j ∧ CP w1 n c r j S R wr) (fun i _ _ _ _ _ _ _ _ _ _ _ => len - (RowKit.intOf i).toNat)
  case atStart => exact ⟨0, [], [], Nat.zero_le _, Nat.zero_le _, rfl, hcp0.out⟩
  case round =>
    obtain ⟨j, S, R, hj, hj40, rfl, hcp⟩ := hrel
    by_cases hlt : j < len ∧ j < 40
    · obtain ⟨lt1, lt2⟩ := hlt
      have lt1' : (j : Int) < (len : Int) := by omega
      have lt2' : (j : Int) < 40 := by omega
      have hjp : (0 : Int) ≤ (j : Int) := by omega
      obtain ⟨bo, oo, rfl, hbo, d0, d1, d2, d3, d4⟩ := Hr.out.2.2 j lt1
      have hcx : Hid (∀ W, Pure w1 W → W.cell? ⟨bo, oo + j * 5, none⟩ = some (.int .i64 (L.getD j cs0).kind) ∧ W.cell? ⟨bo, oo + j * 5 + 1, none⟩ = some (.int .i64 (L.getD j cs0).part) ∧ W.cell? ⟨bo, oo + j * 5 + 2, none⟩ = some (.int .i64 (L.getD j cs0).bag) ∧ W.cell? ⟨bo, oo + j * 5 + 3, none⟩ = some (.int .i64 (L.getD j cs0).node) ∧ W.cell? ⟨bo, oo + j * 5 + 4, none⟩ = some (.string (L.getD j cs0).mark)) := fun W hW => by
        have hp := Hp1.out.then_ hW
        exact ⟨(hp.cell hbo).trans d0, (hp.cell hbo).trans d1, (hp.cell hbo).trans d2, (hp.cell hbo).trans d3, (hp.cell hbo).trans d4⟩
      clear d0 d1 d2 d3 d4 hbo
      generalize L.getD j cs0 = z at *
      obtain ⟨kd, pt, bg, nd, mb⟩ := z
      dsimp only at hcx
      obtain ⟨q, hq⟩ : ∃ q : Nat, bits .and .i64 pt 3 = (q : Int) := ⟨(bits .and .i64 pt 3).toNat, by have := and3 pt; omega⟩
      have hq3 : q ≤ 3 := by have := and3 pt; omega
      obtain ⟨nq, hnq⟩ : ∃ q : Nat, bits .and .i64 nd 3 = (q : Int) := ⟨(bits .and .i64 nd 3).toNat, by have := and3 nd; omega⟩
      have hnq3 : nq ≤ 3 := by have := and3 nd; omega
      have Hcp := hid hcp
      clear hcp
      obtain ⟨d0, d1, d2, d3, d4⟩ := hcx.out wr Hcp.out.pu
      obtain ⟨wa, hwa⟩ : ∃ wa, wa = wr.alloc (.cells #[.int .i64 kd, .int .i64 pt, .int .i64 bg, .int .i64 nd, .string mb] 56) := ⟨_, rfl⟩
      go_upto_if 49 with fail
      go_cut [10, 11, 12] from 28 to 143 (fun s p k wx => s = .pointer (some ⟨wr.heap.size, 0, none⟩) ∧ p = .int .i64 (q : Int) ∧ (∃ K : Nat, K ≤ 2 ∧ k = .int .i64 (K : Int)) ∧ wx = wr.alloc (.cells #[.int .i64 kd, .int .i64 pt, .int .i64 bg, .int .i64 nd, .string mb] 56))
      case first =>
        have h3 : -3 < kd.tmod 3 ∧ kd.tmod 3 < 3 := ⟨by have := Int.lt_tmod_of_pos kd (show (0 : Int) < 3 by decide); omega, Int.tmod_lt_of_pos kd (by decide)⟩
        by_cases hneg : kd.tmod 3 < 0
        · have hK : ((-(kd.tmod 3)).toNat : Int) = -(kd.tmod 3) := by omega
          go_wp2
          go_meet
          case rel => exact ⟨rfl, rfl, ⟨(-(kd.tmod 3)).toNat, by omega, by rw [hK]⟩, rfl⟩
        · have hK : ((kd.tmod 3).toNat : Int) = kd.tmod 3 := by omega
          go_wp2
          go_meet
          case rel => exact ⟨rfl, rfl, ⟨(kd.tmod 3).toNat, by omega, by rw [hK]⟩, rfl⟩
      case rest =>
        obtain ⟨rfl, rfl, ⟨K, hK, rfl⟩, rfl⟩ := hcut
        obtain ⟨kb, hkb⟩ : ∃ k, n7 bg = k := ⟨_, rfl⟩
        have hk7 : kb ≤ 7 := by rw [← hkb]; exact n7_le bg
        have hone := hid (one_to3 bg wa hkb)
        clear hkb
        have Hpa := hid (show Pure wr wa from by rw [hwa]; exact (Below.refl _ _).alloc (Nat.le_refl _) _)
        have hXs := hid (show wa.heap[wr.heap.size]? = some (.cells #[.int .i64 kd, .int .i64 pt, .int .i64 bg, .int .i64 nd, .string mb] 56 (0, 0)) from by rw [hwa]; exact block_alloc_new _ _)
        have Hcpa := hid (show CP w1 n c r j S R wa from ⟨Hcp.out.cu.pure Hpa.out, Hcp.out.ri.pure Hpa.out, Hcp.out.ci, Hcp.out.ok, Hcp.out.pu.then_ Hpa.out⟩)
        go_wp2_with fail
        rw [← hwa]
        clear hwa
        refine hone.out.mono ?_
        rintro e w3 ⟨p0, s0, p1, s1, p2, s2, rfl, hat, hp3, hfr⟩
        generalize hL0 : (oneB kb).1.length = n0 at *
        generalize hL1 : (oneB kb).2.1.length = n1 at *
        generalize hL2 : (oneB kb).2.2.length = n2 at *
        clear hL0 hL1 hL2
        obtain ⟨w4, hw4⟩ : ∃ w4, w4 = w3.alloc (.cells #[.slice p0 n0 s0, .slice p1 n1 s1, .slice p2 n2 s2] 31) := ⟨_, rfl⟩
        obtain ⟨X3, hX3⟩ : ∃ X3, X3 = w3.heap.size := ⟨_, rfl⟩
        have Hp34 := hid (show Pure w3 w4 from by rw [hw4]; exact (Below.refl _ _).alloc (Nat.le_refl _) _)
        have hb4 : w4.heap[X3]? = some (.cells #[.slice p0 n0 s0, .slice p1 n1 s1, .slice p2 n2 s2] 31 (0, 0)) := by rw [hw4, hX3]; exact block_alloc_new _ _
        have hcw : c < wr.heap.size := by
          obtain ⟨mb, hb, bl, h⟩ := Hcp.out.cu
          exact lt_of_block h.blk
        have Hcw := hid (show X3 ≠ c from by have := hp3.size; have := Hpa.out.size; omega)
        have Hst0 := hid (bag_stays2 (n := n) (c := c) Hcw.out hb4 (hat.pure Hp34.out) (fun g hg => by
          have := Hpa.out.size
          obtain ⟨g0, g1, g2⟩ := hfr _ _ _ rfl
          rcases hg with hg | hg | hg
          · have := g0 g hg; omega
          · have := g1 g hg; omega
          · have := g2 g hg; omega))
        have Hp4 := hid (hp3.then_ Hp34.out)
        have Hcp4 := hid (show CP w1 n c r j S R w4 from ⟨Hcpa.out.cu.pure Hp4.out, Hcpa.out.ri.pure Hp4.out, Hcpa.out.ci, Hcpa.out.ok, Hcpa.out.pu.then_ Hp4.out⟩)
        have Hxs4 : Hid (∀ W, KC n c w4 W → W.heap[wr.heap.size]? = some (.cells #[.int .i64 kd, .int .i64 pt, .int .i64 bg, .int .i64 nd, .string mb] 56 (0, 0))) := fun W hW => hW.rows wr.heap.size _ _ _ (by omega) (by exact (Hp4.out.block _ (lt_of_block hXs.out)).trans hXs.out)
        clear hat hp3 hb4 hfr
        have x4 := Hxs4.out w4 (KC.refl _ _ _)
        have y0 := cell_of_block x4 0
        have y3 := cell_of_block x4 3
        have y4 := cell_of_block x4 4
        have Hy := hid (And.intro y0 (And.intro y3 y4))
        clear x4
        rw [hw4] at y0 y3 y4
        go_upto_if 59 with fail
        go_cut [14] from 28 to 143 (fun mk wx => (∃ B : ByteArray, mk = .string B) ∧ wx = w3.alloc (.cells #[.slice p0 n0 s0, .slice p1 n1 s1, .slice p2 n2 s2] 31))
        case first =>
          by_cases hlen : (20 : Int) < (mb.size : Int)
          · have hln : 20 ≤ mb.size := by omega
            go_wp2
            go_meet
            case rel => exact ⟨⟨_, rfl⟩, rfl⟩
          · go_wp2
            go_meet
            case rel => exact ⟨⟨_, rfl⟩, rfl⟩
        case rest =>
          obtain ⟨⟨B, rfl⟩, rfl⟩ := hcut
          go_upto_if 63 with fail
          go_cut [14] from 28 to 143 (fun mk wx => (∃ B : ByteArray, mk = .string B) ∧ Pure w4 wx)
          case first =>
            by_cases hK1 : K = 1
            · have hK1' : ((K : Int) == 1) = true := by simp [hK1]
              clear hK1
              obtain ⟨f0, f1, f2, hat4⟩ := Hst0.out w4 (KC.refl _ _ _)
              have hby := hid (bytes_to hat4 hk7)
              clear hat4
              rw [hw4, hX3] at f0 f1 f2
              go_wp2_with fail
              rw [← hw4]
              refine hby.out.mono ?_
              rintro e w5 ⟨rfl, hp5⟩
              go_wp2
              go_meet
              case rel => exact ⟨⟨_, rfl⟩, hp5⟩
            · have hK1' : ((K : Int) == 1) = false := by simp; omega
              clear hK1
              go_wp2
              go_meet
              case rel => exact ⟨⟨_, rfl⟩, by rw [← hw4]; exact Below.refl _ _⟩
          case rest =>
            obtain ⟨⟨B2, rfl⟩, hp5⟩ := hcut
            have Hcw3 := hid (show c < r ∧ w1.heap.size ≤ n ∧ w1.heap.size ≤ r from by
              obtain ⟨h1, h2, h3, h4⟩ := hcr.out
              obtain ⟨h5, h6⟩ := Hn.out
              exact ⟨h1, by omega, by omega⟩)
            have Hk5 := hid (KC.pure (base := n) (c := c) hp5)
            have Hcp5 := hid (Hcp4.out.pure hp5)
            go_upto_if 67 with fail
            go_cut [15] from 28 to 143 (fun ok wx => ok = .bool true ∧ CPF w1 n c r (j + 1) wx)
            case first =>
              by_cases hK0 : K = 0
              · have hK0' : ((K : Int) == 0) = true := by simp [hK0]
                clear hK0
                have hks := cp_keep Hcp5.out hj40 Hcw3.out hq3 hk7 (fun W' hW => (Hst0.out W' (Hk5.out.trans hW)).2.2.2)
                obtain ⟨S1, b1, hk1, hk2⟩ := hks
                have Hk1 := hid hk1
                have Hk2 := hid hk2
                clear hk1 hk2
                obtain ⟨f0, f1, f2, -⟩ := Hst0.out wc Hk5.out
                rw [hX3] at f0 f1 f2
                have hpd : Pure wc wc.drew := (Below.refl _ _).drew
                have Hf6 := hid (fun W' (hW : KC n c wc.drew W') => (show W'.cell? ⟨w3.heap.size, 0, none⟩ = some (.slice p0 n0 s0) ∧ W'.cell? ⟨w3.heap.size, 1, none⟩ = some (.slice p1 n1 s1) ∧ W'.cell? ⟨w3.heap.size, 2, none⟩ = some (.slice p2 n2 s2) from by
                  obtain ⟨f0, f1, f2, -⟩ := Hst0.out W' (Hk5.out.trans ((KC.pure hpd).trans hW))
                  rw [hX3] at f0 f1 f2
                  exact ⟨f0, f1, f2⟩))
                go_wp2_with fail
                go_region_with (first
                  | (go_at_call 12; (with_reducible refine (Hk1.out _ hpd).mono ?_); rintro e w6 ⟨rfl, hC6, hk6⟩; obtain ⟨g0, g1, g2⟩ := Hf6.out _ hk6)
                  | (go_at_call 20; (with_reducible refine (Hk2.out _ _ hpd hC6 hk6).mono ?_); rintro e w7 ⟨rfl, hfin⟩))
                all_goals
                  go_wp2
                  go_meet
                  case rel => exact ⟨rfl, hfin⟩
              · have hK0' : ((K : Int) == 0) = false := by simp; omega
                clear hK0
                have hks := cp_heard Hcp5.out hj40 Hcw3.out hq3 hnq3 B2
                obtain ⟨S1, b1, hk1, hk2⟩ := hks
                have Hk1 := hid hk1
                have Hk2 := hid hk2
                clear hk1 hk2
                have f3 : wc.cell? ⟨wr.heap.size, 3, none⟩ = some (.int .i64 nd) := cell_of_block (Hxs4.out wc Hk5.out) 3
                have hpd : Pure wc wc.drew := (Below.refl _ _).drew
                have Hf6 := hid (fun W' (hW : KC n c wc.drew W') => (show W'.cell? ⟨wr.heap.size, 3, none⟩ = some (.int .i64 nd) from cell_of_block (Hxs4.out W' (Hk5.out.trans ((KC.pure hpd).trans hW))) 3))
                go_wp2_with fail
                go_region_with (first
                  | (go_at_call 13; (with_reducible refine (Hk1.out _ hpd).mono ?_); rintro e w6 ⟨rfl, hC6, hk6⟩; have g3 := Hf6.out _ hk6)
                  | (go_at_call 21; (with_reducible refine (Hk2.out _ _ hpd hC6 hk6).mono ?_); rintro e w7 ⟨rfl, hfin⟩))
                all_goals
                  go_wp2
                  go_meet
                  case rel => exact ⟨rfl, hfin⟩
            case rest =>
              obtain ⟨rfl, S2, R2, hcp6⟩ := hcut
              have Hcp6 := hid hcp6
              clear hcp6
              have Hpt := hid (cp_parts Hcp6.out (by omega))
              go_wp2_with fail
              refine Hpt.out.mono ?_
              rintro e w20 ⟨a20, c20, rfl, hi20, hp20⟩
              have Hi20 := hid hi20
              have Hcp20 := hid (Hcp6.out.pure hp20)
              clear hi20 hp20 Hpt
              have Hpt := hid (cp_rparts Hcp20.out (by omega))
              go_wp2_with fail
              refine Hpt.out.mono ?_
              rintro e w21 ⟨a21, c21, rfl, hi21, hp21⟩
              have Hsm := hid (same_at (Row.pure Hi20.out hp21) hi21 true (by simp))
              have Hcp21 := hid (Hcp20.out.pure hp21)
              clear hi21 hp21 Hpt
              go_wp2_with fail
              refine Hsm.out.mono ?_
              rintro e w22 ⟨rfl, hp22⟩
              have Hcp22 := hid (Hcp21.out.pure hp22)
              clear hp22 Hsm
              go_wp2
              go_loopw [17, 18, 19] (fun t _ _ wr => ∃ k : Nat, k ≤ 4 ∧ t = .int .i64 k ∧ CP w1 n c r (j + 1) S2 R2 wr) (fun t _ _ _ => 4 - (RowKit.intOf t).toNat)
              case atStart => exact ⟨0, by omega, rfl, Hcp22.out⟩
              case round =>
                obtain ⟨k, hk, rfl, hcpk⟩ := hrel
                have Hcpk := hid hcpk
                clear hcpk
                by_cases hlk : k < 4
                · have hlk' : (k : Int) < 4 := by omega
                  have Hla := hid (cp_rlack (k := k) Hcpk.out (by omega) (show Ints _ (.slice af F.length cf) F from Row.pure Hf.out Hcpk.out.pu) Hfl.out)
                  have hm1 := hid (fun W (hW : CP w1 n c r (j + 1) S2 R2 W) => cp_mark (k := k) hW (by omega))
                  have hm2 := hid (fun W (hW : CP w1 n c r (j + 1) S2 R2 W) => cp_rmark (k := k) hW (by omega))
                  have hsf := hid (fun W (hW : CP w1 n c r (j + 1) S2 R2 W) => cp_safe (k := k) hW (by omega) (show Ints W (.slice af F.length cf) F from Row.pure Hf.out hW.pu) Hfw.out Hfl.out)
                  have Hlc := hid (fun W (hW : CP w1 n c r (j + 1) S2 R2 W) => cp_lack (k := k) hW (by omega) (show Ints W (.slice af F.length cf) F from Row.pure Hf.out hW.pu) Hfw.out Hfl.out)
                  have e2 : (bs (cmark R2 (k : Int))).toList.isEmpty = decide (cmark R2 (k : Int) = []) := by rw [bs_list]; cases cmark R2 (k : Int) <;> simp
                  have e5 : ((bs (cmark R2 (k : Int))).toList = []) = (decide (cmark R2 (k : Int) = []) = true) := by rw [bs_list]; simp
                  have hdn : decide (cmark R2 (k : Int) ≠ []) = !decide (cmark R2 (k : Int) = []) := by simp
                  have e6 : (((clack R2 (k : Int) F).length : Int) == 0) = decide ((clack R2 (k : Int) F).length = 0) := by by_cases h : (clack R2 (k : Int) F).length = 0 <;> simp [h]
                  rw [hdn] at hsf
                  clear hdn
                  generalize decide (cmark R2 (k : Int) = []) = E at *
                  generalize decide ((clack R2 (k : Int) F).length = 0) = Z at *
                  generalize bs (cmark R2 (k : Int)) = CM at *
                  generalize clack R2 (k : Int) F = LL at *
                  have E6 := hid e6
                  have E2 := hid e2
                  have E5 := hid e5
                  clear e2 e5 e6
                  go_wp2_with fail
                  refine Hla.out.mono ?_
                  rintro e w23 ⟨a23, c23, rfl, hi23, hp23⟩
                  have Hi23 := hid hi23
                  have Hcp23 := hid (Hcpk.out.pure hp23)
                  have Hlc23 := hid (Hlc.out _ Hcp23.out)
                  clear hi23 hp23 Hla Hlc
                  go_wp2_with fail
                  refine Hlc23.out.mono ?_
                  rintro e w24 ⟨a24, c24, rfl, hi24, hp24⟩
                  have Hcp24 := hid (Hcp23.out.pure hp24)
                  have Hsm := hid (same_at hi24 (Row.pure Hi23.out hp24) true (by simp))
                  clear hi24 hp24 Hlc23
                  go_wp2_with fail
                  refine Hsm.out.mono ?_
                  rintro e w25 ⟨rfl, hp25⟩
                  have Hcp25 := hid (Hcp24.out.pure hp25)
                  clear hp25 Hsm
                  have Hm1 := hid (hm1.out _ Hcp25.out)
                  have Hm2 := hid (hm2.out _ Hcp25.out)
                  have Hsf := hid (hsf.out _ Hcp25.out)
                  clear hm1 hsf
                  have e6 := E6.out
                  have e2 := E2.out
                  have e5 := E5.out
                  clear E6 E2 E5
                  go_wp2_with fail
                  refine Hm1.out.mono ?_
                  rintro e w26 ⟨rfl, rfl⟩
                  go_wp2_with fail
                  refine Hm2.out.mono ?_
                  rintro e w26 ⟨rfl, rfl⟩
                  go_wp2_with fail
                  refine Hsf.out.mono ?_
                  rintro e w26 ⟨rfl, hp26⟩
                  have Hcp26 := hid (Hcp25.out.pure hp26)
                  clear hp26
                  have Hm3 := hid (hm2.out _ Hcp26.out)
                  go_wp2_with fail
                  refine Hm3.out.mono ?_
                  rintro e w27 ⟨rfl, rfl⟩
                  cases E <;> cases Z
                  all_goals
                    go_wp2
                    go_roundw
                    case rel => exact ⟨k + 1, by omega, by go_num, Hcp26.out⟩
                    case measure => simp [RowKit.intOf]; omega
                · have hlk' : ¬ (k : Int) < 4 := by omega
                  go_wp2
                  go_roundw
                  case rel => exact ⟨j + 1, S2, R2, by omega, by omega, by go_num, Hcpk.out⟩
                  case measure => simp [RowKit.intOf]; omega
    · have Hcp := hid hcp
      clear hcp
      by_cases h1 : j < len
      · have lt1' : (j : Int) < (len : Int) := by omega
        have lt2' : ¬ (j : Int) < 40 := by omega
        go_wp2
        go_ret
        exact ⟨rfl, Hp1.out.then_ Hcp.out.pu⟩
      · have lt1' : ¬ (j : Int) < (len : Int) := by omega
        go_wp2
        go_ret
        exact ⟨rfl, Hp1.out.then_ Hcp.out.pu⟩
end Go.Proofs.Ytofengnbedebpaa
