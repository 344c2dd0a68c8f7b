/- Equality of rows of messages; ref05's Same. ctx.Same, bag.Same, ref05's Same. -/
import Derived.Test.YtdlpnhfgjficgaaGreatMBy
import Derived.Test.YtdlpnhfgjficgaaGreatEqD
namespace Go.Proofs.YtdlpnhfgjficgaaGreat
open Go.RowKit Go.Maps

theorem bs_inj {l k : List UInt8} (h : bs l = bs k) : l = k := by
  have := congrArg (fun b : ByteArray => b.data.toList) h
  simpa [bs] using this
theorem toList_iff (X Y : ByteArray) : X.toList = Y.toList ↔ X = Y := by
  rw [ByteArray.toList_eq, ByteArray.toList_eq]
  constructor
  · intro h
    have : X.data = Y.data := Array.toList_inj.1 h
    cases X; cases Y; simpa using this
  · rintro rfl; rfl
theorem msg_eqIn (W : World) (u v x y c d : Int) (Q B R S : ByteArray) : (Op.equalIn 10000 43 (.agg #[.int .i64 u, .int .i64 v, .string Q, .string B, .int .i64 c]) (.agg #[.int .i64 x, .int .i64 y, .string R, .string S, .int .i64 d])).run Tryz.prog W = .ok (decide (u = x) && decide (v = y) && decide (Q = R) && decide (B = S) && decide (c = d)) W := by
  have hu := Tryz.underlying43
  have hi := Tryz.underlying3
  have hs := Tryz.underlying9
  have hc : Tryz.prog.cellsOf 3 = 1 := by kernel_rfl
  have hc2 : Tryz.prog.cellsOf 9 = 1 := by kernel_rfl
  have hc3 : Tryz.prog.cellsOf 28 = 2 := by kernel_rfl
  have hf : Tryz.prog.underlying 43 = some (.struct (Tryz.prog.fieldsOf 43)) := by simp only [Program.fieldsOf, hu]
  rw [run_equalIn_struct W 9999 43 _ _ hf (by kernel_rfl)]
  simp only [Program.fieldsOf, hu]
  clear hu hf
  by_cases h1 : u = x <;> by_cases h2 : v = y <;> by_cases h3 : Q = R <;> by_cases h4 : B = S <;> by_cases h5 : c = d <;> simp [Op.eqFields, go_sem, h1, h2, h3, h4, h5, toList_iff]

theorem msame_short {l k : List Msg} (h : l.length ≠ k.length) : decide (l = k) = false := by simp; exact fun e => h (by rw [e])
theorem msame_take {l k : List Msg} {i : Nat} (h : l.take i = k.take i) (h1 : i < l.length) (h2 : i < k.length) (e : l.getD i m0 = k.getD i m0) : l.take (i + 1) = k.take (i + 1) := by
  rw [take_succ_m l i h1, take_succ_m k i h2, h, e]
theorem msame_full {l k : List Msg} (h : l.length = k.length) (e : l.take l.length = k.take l.length) : decide (l = k) = true := by rw [List.take_length, h, List.take_length] at e; simp [e]
theorem msame_not {l k : List Msg} {i : Nat} (e : ¬ l.getD i m0 = k.getD i m0) : decide (l = k) = false := by simp; exact fun h => e (by rw [h])

set_option maxHeartbeats 2000000 in
theorem rmsame_any (v u : Value) (l k : List Msg) (w : World) (hv : Msgs w v l) (hu : Msgs w u k) :
    Calls Tryz.prog 135 #[v, u] w fun e w' => e = .returned (.bool (decide (l = k))) ∧ Pure w w' := by
  obtain ⟨a, ca, rfl⟩ := hv.shape
  obtain ⟨b, cb, rfl⟩ := hu.shape
  have h2 : l.length ≤ maxLen := Row.len_le hv
  have h4 : k.length ≤ maxLen := Row.len_le hu
  unfold maxLen at h2 h4
  have Hv := hid hv
  have Hu := hid hu
  have heq := msg_eqIn
  clear hv hu
  by_cases hl : l.length = k.length
  · have hne : ((l.length : Int) != (k.length : Int)) = false := by simp [hl]
    have hl1 : l.length ≤ k.length := by omega
    have hl2 : k.length ≤ l.length := by omega
    have Hl := hid hl
    clear hl
    go_enter Tryz.func135, Tryz.ntmps135
    go_wp2
    go_loopw [5] (fun x wr => ∃ i : Nat, i ≤ l.length ∧ x = .int .i64 i ∧ l.take i = k.take i ∧ ∃ n, wr = w.drewN n) (fun x _ => l.length - (RowKit.intOf x).toNat)
    case atStart => exact ⟨0, Nat.zero_le _, rfl, by simp, 0, rfl⟩
    case round =>
      obtain ⟨i, hi, rfl, ht, n, rfl⟩ := hrel
      by_cases hlt : i < l.length
      · have hlk : i < k.length := by omega
        obtain ⟨ba, oa, rfl, _, c0, c1, c2, c3, c4⟩ := Msgs.get Hv.out hlt
        obtain ⟨bb, ob, rfl, _, d0, d1, d2, d3, d4⟩ := Msgs.get Hu.out hlk
        have Hs := hid (msame_take ht hlt hlk)
        have Hn := hid (@msame_not l k i)
        have hlt' : (i : Int) < (l.length : Int) := by omega
        have hlk' : (i : Int) < (k.length : Int) := by omega
        clear ht
        generalize l.getD i m0 = x at *
        generalize k.getD i m0 = y at *
        obtain ⟨⟨x1, x2⟩, xq, xb, xc⟩ := x
        obtain ⟨⟨y1, y2⟩, yq, yb, yc⟩ := y
        dsimp only at c0 c1 c2 c3 c4 d0 d1 d2 d3 d4
        by_cases hxy : x1 = y1 ∧ x2 = y2 ∧ xq = yq ∧ xb = yb ∧ xc = yc
        · obtain ⟨rfl, rfl, rfl, rfl, rfl⟩ := hxy
          have Hs' := hid (Hs.out rfl)
          clear Hs Hn
          go_wp2_with fail
          go_quiet (fail)
          go_wp2
          go_roundw
          case rel => exact ⟨i + 1, by omega, by go_num, Hs'.out, _, rfl⟩
          case measure => simp [RowKit.intOf]; omega
        · have hb : (decide (x1 = y1) && decide (x2 = y2) && decide (bs xq = bs yq) && decide (bs xb = bs yb) && decide (xc = yc)) = false := by
            rw [Bool.eq_false_iff]
            intro h
            simp only [Bool.and_eq_true, decide_eq_true_eq] at h
            exact hxy ⟨h.1.1.1.1, h.1.1.1.2, bs_inj h.1.1.2, bs_inj h.1.2, h.2⟩
          have Hf := hid (Hn.out (fun e => hxy (by cases e; exact ⟨rfl, rfl, rfl, rfl, rfl⟩)))
          generalize bs xq = XQ at *
          generalize bs yq = YQ at *
          generalize bs xb = XB at *
          generalize bs yb = YB at *
          clear hxy Hs Hn
          go_wp2_with fail
          go_quiet (fail)
          go_wp2
          go_ret
          exact ⟨ret_bool Hf.out.symm, (pure_drewN _ n).then_ (pure_drewN _ _)⟩
      · have e : i = l.length := by omega
        subst e
        have hlt' : ¬ (l.length : Int) < (l.length : Int) := by omega
        have Hf := hid (msame_full Hl.out ht)
        clear ht
        go_wp2
        go_ret
        exact ⟨ret_bool Hf.out.symm, pure_drewN _ _⟩
  · have Hf := hid (msame_short hl)
    have hne : ((l.length : Int) != (k.length : Int)) = true := by simp; omega
    go_enter Tryz.func135, Tryz.ntmps135
    go_wp2
    go_ret
    exact ⟨ret_bool Hf.out.symm, Below.refl _ _⟩

set_option maxHeartbeats 2000000 in
theorem mmsame_any (v u : Value) (l k : List Msg) (w : World) (hv : Msgs w v l) (hu : Msgs w u k) :
    Calls Tryz.prog 134 #[v, u] w fun e w' => e = .returned (.bool (decide (l = k))) ∧ Pure w w' := by
  obtain ⟨a, ca, rfl⟩ := hv.shape
  obtain ⟨b, cb, rfl⟩ := hu.shape
  have h2 : l.length ≤ maxLen := Row.len_le hv
  have h4 : k.length ≤ maxLen := Row.len_le hu
  unfold maxLen at h2 h4
  have Hv := hid hv
  have Hu := hid hu
  have heq := msg_eqIn
  clear hv hu
  by_cases hl : l.length = k.length
  · have hne : ((l.length : Int) != (k.length : Int)) = false := by simp [hl]
    have hl1 : l.length ≤ k.length := by omega
    have hl2 : k.length ≤ l.length := by omega
    have Hl := hid hl
    clear hl
    go_enter Tryz.func134, Tryz.ntmps134
    go_wp2
    go_loopw [5, 13] (fun _ x wr => ∃ i : Nat, i ≤ l.length ∧ x = .int .i64 i ∧ l.take i = k.take i ∧ ∃ n, wr = w.drewN n) (fun _ x _ => l.length - (RowKit.intOf x).toNat)
    case atStart => exact ⟨0, Nat.zero_le _, rfl, by simp, 0, rfl⟩
    case round =>
      obtain ⟨i, hi, rfl, ht, n, rfl⟩ := hrel
      by_cases hlt : i < l.length
      · have hlk : i < k.length := by omega
        obtain ⟨ba, oa, rfl, _, c0, c1, c2, c3, c4⟩ := Msgs.get Hv.out hlt
        obtain ⟨bb, ob, rfl, _, d0, d1, d2, d3, d4⟩ := Msgs.get Hu.out hlk
        have Hs := hid (msame_take ht hlt hlk)
        have Hn := hid (@msame_not l k i)
        have hlt' : (i : Int) < (l.length : Int) := by omega
        have hlk' : (i : Int) < (k.length : Int) := by omega
        clear ht
        generalize l.getD i m0 = x at *
        generalize k.getD i m0 = y at *
        obtain ⟨⟨x1, x2⟩, xq, xb, xc⟩ := x
        obtain ⟨⟨y1, y2⟩, yq, yb, yc⟩ := y
        dsimp only at c0 c1 c2 c3 c4 d0 d1 d2 d3 d4
        by_cases hxy : x1 = y1 ∧ x2 = y2 ∧ xq = yq ∧ xb = yb ∧ xc = yc
        · obtain ⟨rfl, rfl, rfl, rfl, rfl⟩ := hxy
          have Hs' := hid (Hs.out rfl)
          clear Hs Hn
          go_wp2_with fail
          go_quiet (fail)
          go_wp2
          go_roundw
          case rel => exact ⟨i + 1, by omega, by go_num, Hs'.out, _, rfl⟩
          case measure => simp [RowKit.intOf]; omega
        · have hb : (decide (x1 = y1) && decide (x2 = y2) && decide (bs xq = bs yq) && decide (bs xb = bs yb) && decide (xc = yc)) = false := by
            rw [Bool.eq_false_iff]
            intro h
            simp only [Bool.and_eq_true, decide_eq_true_eq] at h
            exact hxy ⟨h.1.1.1.1, h.1.1.1.2, bs_inj h.1.1.2, bs_inj h.1.2, h.2⟩
          have Hf := hid (Hn.out (fun e => hxy (by cases e; exact ⟨rfl, rfl, rfl, rfl, rfl⟩)))
          generalize bs xq = XQ at *
          generalize bs yq = YQ at *
          generalize bs xb = XB at *
          generalize bs yb = YB at *
          clear hxy Hs Hn
          go_wp2_with fail
          go_quiet (fail)
          go_wp2
          go_ret
          exact ⟨ret_bool Hf.out.symm, (pure_drewN _ n).then_ (pure_drewN _ _)⟩
      · have e : i = l.length := by omega
        subst e
        have hlt' : ¬ (l.length : Int) < (l.length : Int) := by omega
        have Hf := hid (msame_full Hl.out ht)
        clear ht
        go_wp2
        go_ret
        exact ⟨ret_bool Hf.out.symm, pure_drewN _ _⟩
  · have Hf := hid (msame_short hl)
    have hne : ((l.length : Int) != (k.length : Int)) = true := by simp; omega
    go_enter Tryz.func134, Tryz.ntmps134
    go_wp2
    go_ret
    exact ⟨ret_bool Hf.out.symm, Below.refl _ _⟩

end Go.Proofs.YtdlpnhfgjficgaaGreat

namespace Go.Proofs.YtdlpnhfgjficgaaGreat
open Go.RowKit Go.Maps

theorem bag_eq (g h : Bag) : decide (g = h) = (decide (g.1 = h.1) && (decide (g.2.1 = h.2.1) && decide (g.2.2 = h.2.2))) := by
  obtain ⟨a, b, c⟩ := g
  obtain ⟨x, y, z⟩ := h
  by_cases h1 : a = x <;> by_cases h2 : b = y <;> by_cases h3 : c = z <;> simp [h1, h2, h3]

set_option maxHeartbeats 1000000 in
theorem mbsame_any (v u : Value) (g h : Bag) (w : World) (hg : BagAt w v g) (hh : BagAt w u h) :
    Calls Tryz.prog 76 #[v, u] w fun e w' => e = .returned (.bool (decide (g = h))) ∧ Pure w w' := by
  obtain ⟨v0, v1, v2, rfl, g0, g1, g2⟩ := hg
  obtain ⟨u0, u1, u2, rfl, h0, h1, h2⟩ := hh
  rw [bag_eq]
  obtain ⟨GL, GB, GC⟩ := g
  obtain ⟨HL, HB, HC⟩ := h
  dsimp only at *
  obtain ⟨wz, hwz⟩ : ∃ wz, wz = (w.alloc (.cells #[v0, v1, v2] 34)).alloc (.cells #[u0, u1, u2] 34) := ⟨_, rfl⟩
  have Hwz := hid (show Pure w wz from by rw [hwz]; exact ((Below.refl _ _).alloc (Nat.le_refl _) _).alloc (by simp) _)
  have b0 : wz.heap[w.heap.size]? = some (.cells #[v0, v1, v2] 34 (0, 0)) := by rw [hwz]; exact block_alloc_old (block_alloc_new _ _) _
  have b1 : wz.heap[w.heap.size + 1]? = some (.cells #[u0, u1, u2] 34 (0, 0)) := by
    rw [hwz]; have := block_alloc_new (w.alloc (.cells #[v0, v1, v2] 34)) (.cells #[u0, u1, u2] 34)
    simpa using this
  have hp := hid (fun W (hW : Pure wz W) => Hwz.out.then_ hW)
  have s1 := hid (fun W (hW : Pure wz W) => mmsame_any v0 u0 GL HL W (Row.pure g0 (hp.out W hW)) (Row.pure h0 (hp.out W hW)))
  have s2 := hid (fun W (hW : Pure wz W) => mcsame_any v1 v2 u1 u2 GB GC HB HC W (Row.pure g1 (hp.out W hW)) (Row.pure g2 (hp.out W hW)) (Row.pure h1 (hp.out W hW)) (Row.pure h2 (hp.out W hW)))
  obtain ⟨a0, c0, rfl⟩ := g0.shape
  obtain ⟨a1, c1, rfl⟩ := g1.shape
  obtain ⟨a2, c2, rfl⟩ := g2.shape
  obtain ⟨a3, c3, rfl⟩ := h0.shape
  obtain ⟨a4, c4, rfl⟩ := h1.shape
  obtain ⟨a5, c5, rfl⟩ := h2.shape
  have B0 := hid b0
  have B1 := hid b1
  clear g0 g1 g2 h0 h1 h2 b0 b1
  generalize decide (GL = HL) = X at *
  generalize (decide (GB = HB) && decide (GC = HC)) = Y at *
  go_enter Tryz.func76, Tryz.ntmps76
  go_wp2_with fail
  rw [← hwz]
  clear hwz
  refine (s2.out wz (Below.refl _ _)).mono ?_
  rintro e w1 ⟨rfl, hp1⟩
  have e0 := (hp1.block _ (lt_of_block B0.out)).trans B0.out
  have e1 := (hp1.block _ (lt_of_block B1.out)).trans B1.out
  have f0 : w1.cell? ⟨w.heap.size, 0, none⟩ = some (.slice a0 GL.length c0) := cell_of_block e0 0
  have f1 : w1.cell? ⟨w.heap.size + 1, 0, none⟩ = some (.slice a3 HL.length c3) := cell_of_block e1 0
  have Hp1 := hid hp1
  clear e0 e1 hp1
  cases Y with
  | false =>
    go_wp2
    go_ret
    exact ⟨ret_bool (by simp), hp.out w1 Hp1.out⟩
  | true =>
    go_wp2_with fail
    refine (s1.out w1 Hp1.out).mono ?_
    rintro e w2 ⟨rfl, hp2⟩
    have Hp2 := hid ((hp.out w1 Hp1.out).then_ hp2)
    clear hp2
    go_wp2
    go_ret
    exact ⟨ret_bool (by simp), Hp2.out⟩

end Go.Proofs.YtdlpnhfgjficgaaGreat

