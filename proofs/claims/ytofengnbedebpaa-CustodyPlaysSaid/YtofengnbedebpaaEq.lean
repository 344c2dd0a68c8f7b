/- Equality of rows of messages; ref05's Same. -/
import Derived.Test.YtofengnbedebpaaByC
namespace Go.Proofs.Ytofengnbedebpaa
open Go.RowKit Go.Maps

theorem bs_inj {l k : List UInt8} (h : bs l = bs k) : l = k := by
  have := congrArg (fun b : ByteArray => b.data.toList) h
  simpa [bs] using this
theorem toList_iff (X Y : ByteArray) : X.toList = Y.toList ↔ X = Y := by
  rw [ByteArray.toList_eq, ByteArray.toList_eq]
  constructor
  · intro h
    have : X.data = Y.data := Array.toList_inj.1 h
    cases X; cases Y; simpa using this
  · rintro rfl; rfl
theorem msg_eqIn (W : World) (u v x y c d : Int) (Q B R S : ByteArray) : (Op.equalIn 10000 69 (.agg #[.int .i64 u, .int .i64 v, .string Q, .string B, .int .i64 c]) (.agg #[.int .i64 x, .int .i64 y, .string R, .string S, .int .i64 d])).run Try.prog W = .ok (decide (u = x) && decide (v = y) && decide (Q = R) && decide (B = S) && decide (c = d)) W := by
  have hu := Try.underlying69
  have hi := Try.underlying3
  have hs := Try.underlying9
  have hc : Try.prog.cellsOf 3 = 1 := by kernel_rfl
  have hc2 : Try.prog.cellsOf 9 = 1 := by kernel_rfl
  have hc3 : Try.prog.cellsOf 67 = 2 := by kernel_rfl
  have hf : Try.prog.underlying 69 = some (.struct (Try.prog.fieldsOf 69)) := by simp only [Program.fieldsOf, hu]
  rw [run_equalIn_struct W 9999 69 _ _ hf (by kernel_rfl)]
  simp only [Program.fieldsOf, hu]
  clear hu hf
  by_cases h1 : u = x <;> by_cases h2 : v = y <;> by_cases h3 : Q = R <;> by_cases h4 : B = S <;> by_cases h5 : c = d <;> simp [Op.eqFields, go_sem, h1, h2, h3, h4, h5, toList_iff]

theorem msame_short {l k : List Msg} (h : l.length ≠ k.length) : decide (l = k) = false := by simp; exact fun e => h (by rw [e])
theorem msame_take {l k : List Msg} {i : Nat} (h : l.take i = k.take i) (h1 : i < l.length) (h2 : i < k.length) (e : l.getD i m0 = k.getD i m0) : l.take (i + 1) = k.take (i + 1) := by
  rw [take_succ_m l i h1, take_succ_m k i h2, h, e]
theorem msame_full {l k : List Msg} (h : l.length = k.length) (e : l.take l.length = k.take l.length) : decide (l = k) = true := by rw [List.take_length, h, List.take_length] at e; simp [e]
theorem msame_not {l k : List Msg} {i : Nat} (e : ¬ l.getD i m0 = k.getD i m0) : decide (l = k) = false := by simp; exact fun h => e (by rw [h])

set_option maxHeartbeats 2000000 in
theorem rmsame_any (v u : Value) (l k : List Msg) (w : World) (hv : Msgs w v l) (hu : Msgs w u k) :
    Calls Try.prog 58 #[v, u] w fun e w' => e = .returned (.bool (decide (l = k))) ∧ Pure w w' := by
  obtain ⟨a, ca, rfl⟩ := hv.shape
  obtain ⟨b, cb, rfl⟩ := hu.shape
  have h2 : l.length ≤ maxLen := Row.len_le hv
  have h4 : k.length ≤ maxLen := Row.len_le hu
  unfold maxLen at h2 h4
  have Hv := hid hv
  have Hu := hid hu
  have heq := msg_eqIn
  clear hv hu
  by_cases hl : l.length = k.length
  · have hne : ((l.length : Int) != (k.length : Int)) = false := by simp [hl]
    have hl1 : l.length ≤ k.length := by omega
    have hl2 : k.length ≤ l.length := by omega
    have Hl := hid hl
    clear hl
    go_enter Try.func58, Try.ntmps58
    go_wp2
    go_loopw [5] (fun x wr => ∃ i : Nat, i ≤ l.length ∧ x = .int .i64 i ∧ l.take i = k.take i ∧ ∃ n, wr = w.drewN n) (fun x _ => l.length - (RowKit.intOf x).toNat)
    case atStart => exact ⟨0, Nat.zero_le _, rfl, by simp, 0, rfl⟩
    case round =>
      obtain ⟨i, hi, rfl, ht, n, rfl⟩ := hrel
      by_cases hlt : i < l.length
      · have hlk : i < k.length := by omega
        obtain ⟨ba, oa, rfl, _, c0, c1, c2, c3, c4⟩ := Msgs.get Hv.out hlt
        obtain ⟨bb, ob, rfl, _, d0, d1, d2, d3, d4⟩ := Msgs.get Hu.out hlk
        have Hs := hid (msame_take ht hlt hlk)
        have Hn := hid (@msame_not l k i)
        have hlt' : (i : Int) < (l.length : Int) := by omega
        have hlk' : (i : Int) < (k.length : Int) := by omega
        clear ht
        generalize l.getD i m0 = x at *
        generalize k.getD i m0 = y at *
        obtain ⟨⟨x1, x2⟩, xq, xb, xc⟩ := x
        obtain ⟨⟨y1, y2⟩, yq, yb, yc⟩ := y
        dsimp only at c0 c1 c2 c3 c4 d0 d1 d2 d3 d4
        by_cases hxy : x1 = y1 ∧ x2 = y2 ∧ xq = yq ∧ xb = yb ∧ xc = yc
        · obtain ⟨rfl, rfl, rfl, rfl, rfl⟩ := hxy
          have Hs' := hid (Hs.out rfl)
          clear Hs Hn
          go_wp2_with fail
          go_quiet (fail)
          go_wp2
          go_roundw
          case rel => exact ⟨i + 1, by omega, by go_num, Hs'.out, _, rfl⟩
          case measure => simp [RowKit.intOf]; omega
        · have hb : (decide (x1 = y1) && decide (x2 = y2) && decide (bs xq = bs yq) && decide (bs xb = bs yb) && decide (xc = yc)) = false := by
            rw [Bool.eq_false_iff]
            intro h
            simp only [Bool.and_eq_true, decide_eq_true_eq] at h
            exact hxy ⟨h.1.1.1.1, h.1.1.1.2, bs_inj h.1.1.2, bs_inj h.1.2, h.2⟩
          have Hf := hid (Hn.out (fun e => hxy (by cases e; exact ⟨rfl, rfl, rfl, rfl, rfl⟩)))
          generalize bs xq = XQ at *
          generalize bs yq = YQ at *
          generalize bs xb = XB at *
          generalize bs yb = YB at *
          clear hxy Hs Hn
          go_wp2_with fail
          go_quiet (fail)
          go_wp2
          go_ret
          exact ⟨ret_bool Hf.out.symm, (pure_drewN _ n).then_ (pure_drewN _ _)⟩
      · have e : i = l.length := by omega
        subst e
        have hlt' : ¬ (l.length : Int) < (l.length : Int) := by omega
        have Hf := hid (msame_full Hl.out ht)
        clear ht
        go_wp2
        go_ret
        exact ⟨ret_bool Hf.out.symm, pure_drewN _ _⟩
  · have Hf := hid (msame_short hl)
    have hne : ((l.length : Int) != (k.length : Int)) = true := by simp; omega
    go_enter Try.func58, Try.ntmps58
    go_wp2
    go_ret
    exact ⟨ret_bool Hf.out.symm, Below.refl _ _⟩

set_option maxHeartbeats 2000000 in
theorem mmsame_any (v u : Value) (l k : List Msg) (w : World) (hv : Msgs w v l) (hu : Msgs w u k) :
    Calls Try.prog 51 #[v, u] w fun e w' => e = .returned (.bool (decide (l = k))) ∧ Pure w w' := by
  obtain ⟨a, ca, rfl⟩ := hv.shape
  obtain ⟨b, cb, rfl⟩ := hu.shape
  have h2 : l.length ≤ maxLen := Row.len_le hv
  have h4 : k.length ≤ maxLen := Row.len_le hu
  unfold maxLen at h2 h4
  have Hv := hid hv
  have Hu := hid hu
  have heq := msg_eqIn
  clear hv hu
  by_cases hl : l.length = k.length
  · have hne : ((l.length : Int) != (k.length : Int)) = false := by simp [hl]
    have hl1 : l.length ≤ k.length := by omega
    have hl2 : k.length ≤ l.length := by omega
    have Hl := hid hl
    clear hl
    go_enter Try.func51, Try.ntmps51
    go_wp2
    go_loopw [5, 13] (fun _ x wr => ∃ i : Nat, i ≤ l.length ∧ x = .int .i64 i ∧ l.take i = k.take i ∧ ∃ n, wr = w.drewN n) (fun _ x _ => l.length - (RowKit.intOf x).toNat)
    case atStart => exact ⟨0, Nat.zero_le _, rfl, by simp, 0, rfl⟩
    case round =>
      obtain ⟨i, hi, rfl, ht, n, rfl⟩ := hrel
      by_cases hlt : i < l.length
      · have hlk : i < k.length := by omega
        obtain ⟨ba, oa, rfl, _, c0, c1, c2, c3, c4⟩ := Msgs.get Hv.out hlt
        obtain ⟨bb, ob, rfl, _, d0, d1, d2, d3, d4⟩ := Msgs.get Hu.out hlk
        have Hs := hid (msame_take ht hlt hlk)
        have Hn := hid (@msame_not l k i)
        have hlt' : (i : Int) < (l.length : Int) := by omega
        have hlk' : (i : Int) < (k.length : Int) := by omega
        clear ht
        generalize l.getD i m0 = x at *
        generalize k.getD i m0 = y at *
        obtain ⟨⟨x1, x2⟩, xq, xb, xc⟩ := x
        obtain ⟨⟨y1, y2⟩, yq, yb, yc⟩ := y
        dsimp only at c0 c1 c2 c3 c4 d0 d1 d2 d3 d4
        by_cases hxy : x1 = y1 ∧ x2 = y2 ∧ xq = yq ∧ xb = yb ∧ xc = yc
        · obtain ⟨rfl, rfl, rfl, rfl, rfl⟩ := hxy
          have Hs' := hid (Hs.out rfl)
          clear Hs Hn
          go_wp2_with fail
          go_quiet (fail)
          go_wp2
          go_roundw
          case rel => exact ⟨i + 1, by omega, by go_num, Hs'.out, _, rfl⟩
          case measure => simp [RowKit.intOf]; omega
        · have hb : (decide (x1 = y1) && decide (x2 = y2) && decide (bs xq = bs yq) && decide (bs xb = bs yb) && decide (xc = yc)) = false := by
            rw [Bool.eq_false_iff]
            intro h
            simp only [Bool.and_eq_true, decide_eq_true_eq] at h
            exact hxy ⟨h.1.1.1.1, h.1.1.1.2, bs_inj h.1.1.2, bs_inj h.1.2, h.2⟩
          have Hf := hid (Hn.out (fun e => hxy (by cases e; exact ⟨rfl, rfl, rfl, rfl, rfl⟩)))
          generalize bs xq = XQ at *
          generalize bs yq = YQ at *
          generalize bs xb = XB at *
          generalize bs yb = YB at *
          clear hxy Hs Hn
          go_wp2_with fail
          go_quiet (fail)
          go_wp2
          go_ret
          exact ⟨ret_bool Hf.out.symm, (pure_drewN _ n).then_ (pure_drewN _ _)⟩
      · have e : i = l.length := by omega
        subst e
        have hlt' : ¬ (l.length : Int) < (l.length : Int) := by omega
        have Hf := hid (msame_full Hl.out ht)
        clear ht
        go_wp2
        go_ret
        exact ⟨ret_bool Hf.out.symm, pure_drewN _ _⟩
  · have Hf := hid (msame_short hl)
    have hne : ((l.length : Int) != (k.length : Int)) = true := by simp; omega
    go_enter Try.func51, Try.ntmps51
    go_wp2
    go_ret
    exact ⟨ret_bool Hf.out.symm, Below.refl _ _⟩

set_option maxHeartbeats 2000000 in
theorem mdsame_any (v u : Value) (l k : List Dot) (w : World) (hv : Dots w v l) (hu : Dots w u k) :
    Calls Try.prog 68 #[v, u] w fun e w' => e = .returned (.bool (decide (l = k))) ∧ Pure w w' := by
  obtain ⟨a, ca, rfl⟩ := hv.shape
  obtain ⟨b, cb, rfl⟩ := hu.shape
  have h2 : l.length ≤ maxLen := Row.len_le hv
  have h4 : k.length ≤ maxLen := Row.len_le hu
  unfold maxLen at h2 h4
  have Hv := hid hv
  have Hu := hid hu
  have heq := dot_eqIn
  clear hv hu
  by_cases hl : l.length = k.length
  · have hne : ((l.length : Int) != (k.length : Int)) = false := by simp [hl]
    have hl1 : l.length ≤ k.length := by omega
    have hl2 : k.length ≤ l.length := by omega
    have Hl := hid hl
    clear hl
    go_enter Try.func68, Try.ntmps68
    go_wp2
    go_loopw [5, 13] (fun _ x wr => ∃ i : Nat, i ≤ l.length ∧ x = .int .i64 i ∧ l.take i = k.take i ∧ ∃ n, wr = w.drewN n) (fun _ x _ => l.length - (RowKit.intOf x).toNat)
    case atStart => exact ⟨0, Nat.zero_le _, rfl, by simp, 0, rfl⟩
    case round =>
      obtain ⟨i, hi, rfl, ht, n, rfl⟩ := hrel
      by_cases hlt : i < l.length
      · have hlk : i < k.length := by omega
        obtain ⟨ba, oa, rfl, _, c0, c1⟩ := Dots.get Hv.out hlt
        obtain ⟨bb, ob, rfl, _, d0, d1⟩ := Dots.get Hu.out hlk
        have Hs := hid (dsame_take ht hlt hlk)
        have Hn := hid (@dsame_not l k i)
        have hlt' : (i : Int) < (l.length : Int) := by omega
        have hlk' : (i : Int) < (k.length : Int) := by omega
        clear ht
        generalize l.getD i (0, 0) = x at *
        generalize k.getD i (0, 0) = y at *
        obtain ⟨x1, x2⟩ := x
        obtain ⟨y1, y2⟩ := y
        dsimp only at c0 c1 d0 d1
        by_cases hxy : x1 = y1 ∧ x2 = y2
        · obtain ⟨rfl, rfl⟩ := hxy
          have Hs' := hid (Hs.out rfl)
          clear Hs Hn
          go_wp2_with fail
          go_quiet (fail)
          go_wp2
          go_roundw
          case rel => exact ⟨i + 1, by omega, by go_num, Hs'.out, _, rfl⟩
          case measure => simp [RowKit.intOf]; omega
        · have hb : (decide (x1 = y1) && decide (x2 = y2)) = false := by simpa using hxy
          have Hf := hid (Hn.out (fun e => hxy (by cases e; exact ⟨rfl, rfl⟩)))
          clear hxy Hs Hn
          go_wp2_with fail
          go_quiet (fail)
          go_wp2
          go_ret
          exact ⟨ret_bool Hf.out.symm, (pure_drewN _ n).then_ (pure_drewN _ _)⟩
      · have e : i = l.length := by omega
        subst e
        have hlt' : ¬ (l.length : Int) < (l.length : Int) := by omega
        have Hf := hid (dsame_full Hl.out ht)
        clear ht
        go_wp2
        go_ret
        exact ⟨ret_bool Hf.out.symm, pure_drewN _ _⟩
  · have Hf := hid (dsame_short hl)
    have hne : ((l.length : Int) != (k.length : Int)) = true := by simp; omega
    go_enter Try.func68, Try.ntmps68
    go_wp2
    go_ret
    exact ⟨ret_bool Hf.out.symm, Below.refl _ _⟩
end Go.Proofs.Ytofengnbedebpaa
