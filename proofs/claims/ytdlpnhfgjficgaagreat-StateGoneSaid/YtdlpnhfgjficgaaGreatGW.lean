/- StateGone: the walk. -/
import Derived.Test.YtdlpnhfgjficgaaGreatMRn
import Derived.Test.YtdlpnhfgjficgaaGreatMWb
import Derived.Test.YtdlpnhfgjficgaaGreatMZa
import Derived.Test.YtdlpnhfgjficgaaGreatMGw
import Derived.Test.YtdlpnhfgjficgaaGreatMJr
namespace Go.Proofs.YtdlpnhfgjficgaaGreat
open Go.RowKit Go.Maps Go.Shelf

theorem field_bag1 (W : World) (a0 a1 a2 : Option Addr) (n0 n1 n2 c0 c1 c2 : Nat) : (Instr.field 34 (.agg #[.slice a0 n0 c0, .slice a1 n1 c1, .slice a2 n2 c2]) 1).run Tryz.prog W = .ok (.agg #[.slice a1 n1 c1, .slice a2 n2 c2]) W := by kernel_rfl
theorem CB.kept {n m : Nat} {v0 v1 : Value} {X : List Dot × List Dot} {w w' : World} (h : CB m v0 v1 X w) (hk : Kept (fun k => k = n) w w') (hm : m ≠ n) (h0 : ∀ k, v0.rb = some k → n < k) (h1 : ∀ k, v1.rb = some k → n < k) : CB m v0 v1 X w' :=
  ⟨(hk.block _ (lt_of_block h.b) hm).trans h.b, Row.kept h.r0 hk (fun k e e' => by have := h0 k e; omega), Row.kept h.r1 hk (fun k e e' => by have := h1 k e; omega)⟩
theorem DB.kept {n m : Nat} {d : Dot} {w w' : World} (h : DB m d w) (hk : Kept (fun k => k = n) w w') (hm : m ≠ n) : DB m d w' := (hk.block _ (lt_of_block h) hm).trans h
def GnIf (G : Bool) (d : Dot) (g : Bag) : Prop := G = true → Gn d g
def LtIf (G : Bool) (c k : Nat) : Prop := G = true → c < k
def E0If (G : Bool) (e : Nat) : Prop := G = false → e = 0
set_option maxRecDepth 8000 in
set_option maxHeartbeats 8000000 in
theorem gone_walk (a0 : Option Addr) (len cap : Nat) (L : List Rc) (N P : Int) (w : World) (h : RecsIn w a0 len cap L) (hN : N < 9223372036854775808) :
    Calls Tryz.prog 3 #[.slice a0 len cap, .int .i64 N, .int .i64 P] w fun e w' => e = .returned (.bool true) ∧ Pure w w' := by
  obtain ⟨hlen, hrow, hwf⟩ := h
  subst hlen
  have haw := hid awake19_any
  have Htx := hid (fun k (hk : k < L.length) W => text_any (L.getD k rc0) W (hwf (L.getD k rc0) (by simp [List.getD, hk])))
  unfold TxP at Htx
  have Hrow := hid (fun W (hW : Pure w W) => (show Recs W (.slice a0 L.length cap) L from Row.pure hrow hW))
  have hp15 := andK P 15 (by decide)
  obtain ⟨p, hp⟩ : ∃ p : Nat, bits .and .i64 P 15 = p := ⟨(bits .and .i64 P 15).toNat, by omega⟩
  have hpn : p < 16 := by omega
  have h3 := andK N 3 (by decide)
  have h4 := andK (N / 4) 7 (by decide)
  have h7 := andK N 7 (by decide)
  obtain ⟨c, hc⟩ : ∃ c : Nat, bits .and .i64 N 7 = c := ⟨(bits .and .i64 N 7).toNat, by omega⟩
  obtain ⟨d, hd⟩ : ∃ d : Dot, d = rdot ⟨3, N, p, []⟩ := ⟨_, rfl⟩
  have hd' : d = (1 + bits .and .i64 N 3, 1 + bits .and .i64 (N / 4) 7) := hd
  have hw1 : wrap64 (1 + bits .and .i64 N 3) = 1 + bits .and .i64 N 3 := by unfold wrap64; omega
  have hw2 : wrap64 (1 + bits .and .i64 (N / 4) 7) = 1 + bits .and .i64 (N / 4) 7 := by unfold wrap64; omega
  have Hrm := hid (fun (M : Nat) (S : SD) (h : SOk M S) => (show (appl S (rtext ⟨3, N, p, []⟩)).2 = 0 ∧ Gn d ((appl S (rtext ⟨3, N, p, []⟩)).1.bags.getD p nb) from by
    have := appl_rm h ⟨3, N, p, []⟩ (by show bits .and .i64 3 7 = 3; decide)
    rw [← hd] at this
    have e : rpart ⟨3, N, p, []⟩ = p := by
      show (bits .and .i64 (p : Int) 15).toNat = p
      rw [and15 (by omega) (by omega)]; omega
    rwa [e] at this))
  have Ht3 := hid (fun W => (show Calls Tryz.prog 15 #[.agg #[.int .i64 3, .int .i64 N, .int .i64 p, .string ⟨#[]⟩]] W (TxP ⟨3, N, p, []⟩ W) from text_any ⟨3, N, p, []⟩ W hN))
  unfold TxP at Ht3
  have Hb3 := hid (bsz_text ⟨3, N, p, []⟩)
  generalize rtext ⟨3, N, p, []⟩ = t3 at *
  have Hd' := hid hd'
  clear hrow hwf h3 h4 h7 hp15 hd hd'
  go_enter Tryz.func3, Tryz.ntmps3
  go_wp2_with fail
  refine (haw.out _).mono ?_
  rintro e w1 ⟨rfl, hp1⟩
  have Hp1 := hid hp1
  clear hp1
  go_wp2_with fail
  refine (snew_any _).mono ?_
  rintro e w2 ⟨rfl, hs2, hp2⟩
  have Hp2 := hid (Hp1.out.then_ hp2)
  have Hs2 := hid (show St2 w1.heap.size w1.heap.size S0 w2 from (St.zero hs2).two)
  obtain ⟨n, hn⟩ : ∃ n, n = w1.heap.size := ⟨_, rfl⟩
  have Hn := hid (show w.heap.size ≤ n from by rw [hn]; exact Hp1.out.size)
  rw [← hn] at Hs2 ⊢
  clear hs2 hp2 hn
  go_wp2_with fail
  generalize hB0 : w2.alloc (.cells #[.int .i64 (1 + bits .and .i64 N 3), .int .i64 (1 + bits .and .i64 (N / 4) 7)] 28) = wb
  have Hdb := hid (show DB w2.heap.size d wb from by rw [Hd'.out, ← hB0]; exact block_alloc_new _ _)
  have Hpb := hid (show Pure w wb from by rw [← hB0]; exact Hp2.out.alloc Hp2.out.size _)
  have Hsb := hid (show St2 n n S0 wb from by rw [← hB0]; exact Hs2.out.pure ((Below.refl _ _).alloc (Nat.le_refl _) _))
  have Hnb := hid (show n < w2.heap.size from Hs2.out.lt)
  generalize w2.heap.size = bd at *
  clear hB0 hw1 hw2
  go_loopw [11, 12] (fun g i wr => ∃ (k e : Nat) (gn : Bool) (S : SD), k ≤ L.length ∧ k ≤ 30 ∧ i = .int .i64 k ∧ g = .bool gn ∧ St2 n n S wr ∧ SOk (30 * k + e) S ∧ e ≤ 30 ∧ (gn = false → e = 0) ∧ (gn = true → c < k ∧ Gn d (S.bags.getD p nb)) ∧ Pure w wr ∧ DB bd d wr) (fun _ i _ => 30 - (RowKit.intOf i).toNat)
  case atStart => exact ⟨0, 0, false, S0, Nat.zero_le _, Nat.zero_le _, rfl, rfl, Hsb.out, SOk.zero 0, Nat.zero_le _, fun _ => rfl, (fun h => by cases h), Hpb.out, Hdb.out⟩
  case round =>
    obtain ⟨k, e0, gn, S, hk, hk30, rfl, rfl, hst, hok, he0, hg0, hg1, hpr, hdb⟩ := hrel
    have Hst := hid hst
    have Hok := hid hok
    have Hg0 := hid hg0
    have Hg1 := hid hg1
    have Hpr := hid hpr
    have Hdb := hid hdb
    clear hst hok hg0 hg1 hdb
    by_cases hlt : k < L.length ∧ k < 30
    · obtain ⟨hl1, hl2⟩ := hlt
      obtain ⟨b, off, rfl, hb0, x0, x1, x2, x3⟩ := Recs.get (Hrow.out wr hpr) hl1
      have hl1' : (k : Int) < (L.length : Int) := by omega
      have hl2' : (k : Int) < 30 := by omega
      have Ht := hid (Htx.out k hl1)
      have Hb := hid (bsz_text (L.getD k rc0))
      clear x0 x1 x2 x3 hb0 hpr
      have Hgb := hid (Hok.out.bag p)
      have HE6 := hid (appl_sees Hok.out Hb.out p)
      have HG6 := hid (fun (k : Gn d (S.bags.getD p nb)) => appl_gone Hok.out Hb.out k)
      have hbag := hid (sbag_any n p (30 * k + e0) S wr Hst.out.st hpn Hgb.out (by omega))
      generalize S.bags.getD p nb = g0 at *
      go_wp2_with fail
      refine hbag.out.mono ?_
      clear hbag
      rintro e w3 ⟨v0, v1, v2, rfl, hr3, hp3, hf3⟩
      obtain ⟨u0, q0, rfl⟩ := hr3.1.shape
      obtain ⟨u1, q1, rfl⟩ := hr3.2.1.shape
      obtain ⟨u2, q2, rfl⟩ := hr3.2.2.shape
      have hfb := fun W => field_bag1 W u0 u1 u2 g0.1.length g0.2.1.length g0.2.2.length q0 q1 q2
      obtain ⟨y3, hy3⟩ : ∃ y3, y3 = w3.alloc (.cells #[.slice u1 g0.2.1.length q1, .slice u2 g0.2.2.length q2] 32) := ⟨_, rfl⟩
      have HC3 := hid (show CB w3.heap.size (.slice u1 g0.2.1.length q1) (.slice u2 g0.2.2.length q2) g0.2 y3 from by rw [hy3]; exact CB.made hr3.2.1 hr3.2.2)
      have HP3 := hid (show Pure wr y3 from by rw [hy3]; exact hp3.alloc hp3.size _)
      have HF1 := hid (fun k hk => Nat.lt_of_lt_of_le Hst.out.lt (hf3.2.1 k hk))
      have HF2 := hid (fun k hk => Nat.lt_of_lt_of_le Hst.out.lt (hf3.2.2 k hk))
      have Hm3 := hid (show n < w3.heap.size from Nat.lt_of_lt_of_le Hst.out.lt hp3.size)
      obtain ⟨b', off', e', hb0, x0, x1, x2, x3⟩ := Recs.get (Hrow.out y3 (Hpr.out.then_ HP3.out)) hl1
      cases e'
      generalize L.getD k rc0 = x at *
      generalize rtext x = tx at *
      obtain ⟨z1, z2, z3, z4⟩ := x
      unfold rcV at Ht
      dsimp only at Ht x0 x1 x2 x3
      rw [hy3] at x0 x1 x2 x3
      clear hr3 hp3 hf3 hb0
      generalize g0.1.length = mz at *
      go_wp2_with fail
      rw [← hy3]
      clear hy3 hfb x0 x1 x2 x3
      generalize w3.heap.size = bc at *
      refine (Ht.out _).mono ?_
      rintro e w5 ⟨rfl, hp5⟩
      have HP5 := hid (HP3.out.then_ hp5)
      have HC5 := hid (HC3.out.pure hp5)
      clear hp5
      go_wp2_with fail
      refine (sapply_any n n (30 * k + e0) 30 S tx w5 (Hst.out.pure HP5.out) (Hst.out.pure HP5.out).lt Hok.out Hb.out (by omega)).mono ?_
      rintro e w6 ⟨rfl, hs6, hk6⟩
      have HS6 := hid hs6
      have HK6 := hid hk6
      have HO6 := hid (Hok.out.appl Hb.out)
      have HC6 := hid (HC5.out.kept hk6 (by have := Hm3.out; omega) HF1.out HF2.out)
      have HD6 := hid ((Hdb.out.pure HP5.out).kept hk6 (by have := Hnb.out; omega))
      have HP6 := hid (pure_box (Hpr.out.then_ HP5.out) hk6 Hn.out)
      clear hs6 hk6
      generalize (appl S tx).1 = S1 at *
      generalize (appl S tx).2 = e1 at *
      have hcase : (k = c ∧ gn = false) ∨ (k ≠ c ∧ gn = true) ∨ (k ≠ c ∧ gn = false) := by
        have := Hg1.out
        cases gn
        · by_cases h : k = c
          · exact .inl ⟨h, rfl⟩
          · exact .inr (.inr ⟨h, rfl⟩)
        · exact .inr (.inl ⟨by have := (this rfl).1; omega, rfl⟩)
      rcases hcase with ⟨hkc, rfl⟩ | ⟨hkc, rfl⟩ | ⟨hkc, rfl⟩
      case' inl =>
        obtain rfl : e0 = 0 := Hg0.out rfl
        have heq : ((k : Int) == (c : Int)) = true := by simp [hkc]
        go_wp2_with fail
        refine (Ht3.out _).mono ?_
        rintro e w7 ⟨rfl, hp7⟩
        have HP7 := hid (HP6.out.then_ hp7)
        have HS7 := hid (HS6.out.pure hp7)
        have HC7 := hid (HC6.out.pure hp7)
        have HD7 := hid (HD6.out.pure hp7)
        clear hp7 heq
        have Hr3 := hid (Hrm.out _ S1 HO6.out)
        go_wp2_with fail
        refine (sapply_any n n (30 * k + 0 + 30) 30 S1 t3 w7 HS7.out HS7.out.lt HO6.out Hb3.out (by omega)).mono ?_
        rintro e w8 ⟨rfl, hs8, hk8⟩
        rw [Hr3.out.1]
        have HSN := hid hs8
        have HON := hid (show SOk (30 * (k + 1) + 30) (appl S1 t3).1 from by
          have := HO6.out.appl Hb3.out
          rwa [show 30 * k + 0 + 30 + 30 = 30 * (k + 1) + 30 by omega] at this)
        have HEN := hid (HE6.out.trans (appl_sees HO6.out Hb3.out p))
        have HGN := hid (show GnIf true d _ from fun _ => Hr3.out.2)
        have HLN := hid (show LtIf true c (k + 1) from fun _ => by omega)
        have HeN := hid (show E0If true 30 from fun h => by cases h)
        have HCN := hid (HC7.out.kept hk8 (by have := Hm3.out; omega) HF1.out HF2.out)
        have HDN := hid (HD7.out.kept hk8 (by have := Hnb.out; omega))
        have HPN := hid (pure_box HP7.out hk8 Hn.out)
        clear hs8 hk8
        generalize (appl S1 t3).1 = SN at *
      case' inr.inl =>
        have hne : ((k : Int) == (c : Int)) = false := by simp; omega
        have HSN := hid HS6.out
        have HON := hid (show SOk (30 * (k + 1) + e0) S1 from by
          have := HO6.out
          rwa [show 30 * k + e0 + 30 = 30 * (k + 1) + e0 by omega] at this)
        have HEN := hid HE6.out
        have HGN := hid (show GnIf true d _ from fun _ => HG6.out (Hg1.out rfl).2)
        have HLN := hid (show LtIf true c (k + 1) from fun _ => Nat.lt_succ_of_lt (Hg1.out rfl).1)
        have HeN := hid (show E0If true e0 from fun h => by cases h)
        have HCN := hid HC6.out
        have HDN := hid HD6.out
        have HPN := hid HP6.out
        generalize S1 = SN at *
      case' inr.inr =>
        have hne : ((k : Int) == (c : Int)) = false := by simp; omega
        have HSN := hid HS6.out
        have HON := hid (show SOk (30 * (k + 1) + e0) S1 from by
          have := HO6.out
          rwa [show 30 * k + e0 + 30 = 30 * (k + 1) + e0 by omega] at this)
        have HEN := hid HE6.out
        have HGN := hid (show GnIf false d (S1.bags.getD p nb) from fun h => by cases h)
        have HLN := hid (show LtIf false c (k + 1) from fun h => by cases h)
        have HeN := hid (show E0If false e0 from Hg0.out)
        have HCN := hid HC6.out
        have HDN := hid HD6.out
        have HPN := hid HP6.out
        generalize S1 = SN at *
      all_goals
        have HbN := hid (HON.out.bag p)
        have hbag := hid (fun W (h : St2 n n SN W) => sbag_any n p _ SN W h.st hpn HbN.out (by omega))
        generalize hge : SN.bags.getD p nb = g1 at *
        have Hge := hid hge
        clear hge
        go_wp2_with fail
        refine (hbag.out _ HSN.out).mono ?_
        clear hbag
        rintro e w9 ⟨v0, v1, v2, rfl, hr9, hp9, -⟩
        obtain ⟨s0, r0, rfl⟩ := hr9.1.shape
        obtain ⟨s1, r1, rfl⟩ := hr9.2.1.shape
        obtain ⟨s2, r2, rfl⟩ := hr9.2.2.shape
        obtain ⟨y9, hy9⟩ : ∃ y9, y9 = w9.alloc (.cells #[.slice s0 g1.1.length r0, .slice s1 g1.2.1.length r1, .slice s2 g1.2.2.length r2] 34) := ⟨_, rfl⟩
        have HX9 := hid (show BX w9.heap.size (.slice s0 g1.1.length r0) (.slice s1 g1.2.1.length r1) (.slice s2 g1.2.2.length r2) g1 y9 from by rw [hy9]; exact BX.made hr9)
        have hq9 : Pure w9 y9 := by rw [hy9]; exact (Below.refl _ _).alloc (Nat.le_refl _) _
        have HS9 := hid (HSN.out.pure (hp9.then_ hq9))
        have HC9 := hid (HCN.out.pure (hp9.then_ hq9))
        have HD9 := hid (HDN.out.pure (hp9.then_ hq9))
        have HP9 := hid (HPN.out.then_ (hp9.then_ hq9))
        obtain ⟨k0, k1, k2⟩ := HX9.out.cells
        obtain ⟨f0, f1⟩ := HC9.out.cells
        rw [hy9] at k0 k1 k2 f0 f1
        clear hr9 hp9 hq9
        go_wp2_with fail
        rw [← hy9]
        clear hy9 k0 k1 k2 f0 f1
        generalize w9.heap.size = bx at *
        refine (rcoversL_any _ _ _ _ g1.2.1 g1.2.2 g0.2.1 g0.2.2 y9 HX9.out.r.2.1 HX9.out.r.2.2 HC9.out.r0 HC9.out.r1 (by have := HbN.out.c; have := Hgb.out.c; omega) (fun d hd => by have := HbN.out.v.ok.bok d hd; unfold dok at this; omega) (fun d hd => by have := Hgb.out.v.ok.bok d hd; unfold dok at this; omega)).mono ?_
        rintro e w10 ⟨rfl, hp10⟩
        rw [Sees.cov Hgb.out.v HbN.out.v HEN.out]
        have HX10 := hid (HX9.out.pure hp10)
        have HP10 := hid (HP9.out.then_ hp10)
        have HS10 := hid (HS9.out.pure hp10)
        have HD10 := hid (HD9.out.pure hp10)
        obtain ⟨k0, k1, k2⟩ := HX10.out.cells
        obtain ⟨f0, f1⟩ := HD10.out.cells
        clear hp10
        have hget := hid (rget_any _ _ _ g1 d w10 HX10.out.r)
        have hth : (∀ G : Bool, GnIf G d g1 → G = true → (lget g1.1 d).isSome = false) := fun G h1 h2 => by rw [(h1 h2).2]; rfl
        have hth2 := hth _ HGN.out
        clear hth
        unfold getR mv dv at hget
        obtain ⟨⟨⟨ux, uy⟩, uq, ub, uc⟩, hmm⟩ : ∃ m : Msg, (lget g1.1 d).getD m0 = m := ⟨_, rfl⟩
        rw [hmm] at hget
        dsimp only at hget
        clear hmm
        generalize (lget g1.1 d).isSome = th at *
        go_wp2_with fail
        refine hget.out.mono ?_
        rintro e w11 ⟨rfl, hp11⟩
        clear k0 k1 k2 f0 f1 hget
        have hq11 : Pure w11 (w11.alloc (.cells #[.int .i64 ux, .int .i64 uy, .string (bs uq), .string (bs ub), .int .i64 uc] 43)) := (Below.refl _ _).alloc (Nat.le_refl _) _
        have HP11 := hid (HP10.out.then_ (hp11.then_ hq11))
        have HS11 := hid (HS10.out.pure (hp11.then_ hq11))
        have HD11 := hid (HD10.out.pure (hp11.then_ hq11))
        clear hp11 hq11
        cases th <;> simp at hth2
        all_goals
          go_wp2
          go_roundw
          (case rel => exact ⟨k + 1, _, _, SN, by omega, by omega, by go_num, rfl, HS11.out, HON.out, by omega, HeN.out, fun h => ⟨HLN.out h, by rw [Hge.out]; exact HGN.out h⟩, HP11.out, HD11.out⟩)
          (case measure => simp [RowKit.intOf]; omega)
    · have hxx : (¬ (k : Int) < (L.length : Int)) ∨ ((k : Int) < (L.length : Int) ∧ ¬ (k : Int) < 30) := by omega
      clear hlt hpr
      rcases hxx with hx' | ⟨hx', hx2⟩
      all_goals
        go_wp2
        go_ret
        exact ⟨rfl, Hpr.out⟩
end Go.Proofs.YtdlpnhfgjficgaaGreat
