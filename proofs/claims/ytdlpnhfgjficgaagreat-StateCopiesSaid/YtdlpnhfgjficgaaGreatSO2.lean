/- ref02's SameTexts; ref06's Marks. -/
import Derived.Test.YtdlpnhfgjficgaaGreatMSd
import Derived.Test.YtdlpnhfgjficgaaGreatMQs
namespace Go.Proofs.YtdlpnhfgjficgaaGreat
open Go.RowKit Go.Maps Go.Shelf Go.Sort

theorem bs_list2 (l : List UInt8) : (bs l).toList = l := ByteArray.toList_mk l
theorem ssame_short {l k : List (List UInt8)} (h : l.length ≠ k.length) : decide (l = k) = false := by simp; exact fun e => h (by rw [e])
theorem ssame_take {l k : List (List UInt8)} {i : Nat} (h : l.take i = k.take i) (h1 : i < l.length) (h2 : i < k.length) (e : l.getD i [] = k.getD i []) : l.take (i + 1) = k.take (i + 1) := by
  rw [take_succ_s l i h1, take_succ_s k i h2, h, e]
theorem ssame_full {l k : List (List UInt8)} (h : l.length = k.length) (e : l.take l.length = k.take l.length) : decide (l = k) = true := by rw [List.take_length, h, List.take_length] at e; simp [e]
theorem ssame_not {l k : List (List UInt8)} {i : Nat} (e : ¬ l.getD i [] = k.getD i []) : decide (l = k) = false := by simp; exact fun h => e (by rw [h])

set_option maxHeartbeats 2000000 in
theorem rstexts_any (v u : Value) (l k : List (List UInt8)) (w : World) (hv : Strs w v l) (hu : Strs w u k) :
    Calls Tryz.prog 32 #[v, u] w fun e w' => e = .returned (.bool (decide (l = k))) ∧ Pure w w' := by
  obtain ⟨a, ca, rfl⟩ := hv.shape
  obtain ⟨b, cb, rfl⟩ := hu.shape
  have h2 : l.length ≤ maxLen := Row.len_le hv
  have h4 : k.length ≤ maxLen := Row.len_le hu
  unfold maxLen at h2 h4
  have Hv := hid hv
  have Hu := hid hu
  clear hv hu
  by_cases hl : l.length = k.length
  · have hne : ((l.length : Int) != (k.length : Int)) = false := by simp [hl]
    have hl1 : l.length ≤ k.length := by omega
    have hl2 : k.length ≤ l.length := by omega
    have Hl := hid hl
    clear hl
    go_enter Tryz.func32, Tryz.ntmps32
    go_wp2
    go_loopw [5] (fun x wr => ∃ i : Nat, i ≤ l.length ∧ x = .int .i64 i ∧ l.take i = k.take i ∧ ∃ n, wr = w.drewN n) (fun x _ => l.length - (RowKit.intOf x).toNat)
    case atStart => exact ⟨0, Nat.zero_le _, rfl, by simp, 0, rfl⟩
    case round =>
      obtain ⟨i, hi, rfl, ht, n, rfl⟩ := hrel
      by_cases hlt : i < l.length
      · have hlk : i < k.length := by omega
        obtain ⟨ba, oa, rfl, _, c0⟩ := Strs.get Hv.out hlt
        obtain ⟨bb, ob, rfl, _, d0⟩ := Strs.get Hu.out hlk
        have Hs := hid (ssame_take ht hlt hlk)
        have Hn := hid (@ssame_not l k i)
        have hlt' : (i : Int) < (l.length : Int) := by omega
        have hlk' : (i : Int) < (k.length : Int) := by omega
        clear ht
        generalize l.getD i [] = x at *
        generalize k.getD i [] = y at *
        by_cases hxy : x = y
        · subst hxy
          have Hs' := hid (Hs.out rfl)
          clear Hs Hn
          generalize bs x = X at *
          have e1 : (X.toList != X.toList) = false := by simp
          go_wp2_with fail
          go_quiet (fail)
          go_wp2
          go_roundw
          case rel => exact ⟨i + 1, by omega, by go_num, Hs'.out, _, rfl⟩
          case measure => simp [RowKit.intOf]; omega
        · have Hf := hid (Hn.out hxy)
          have hb : ((bs x).toList != (bs y).toList) = true := by rw [bs_list2, bs_list2]; simpa using hxy
          have hb2 : ((bs x).toList == (bs y).toList) = false := by rw [bs_list2, bs_list2]; simpa using hxy
          have hb3 : ((bs x).toList = (bs y).toList) = False := by rw [bs_list2, bs_list2]; simpa using hxy
          generalize bs x = X at *
          generalize bs y = Y at *
          clear hxy Hs Hn
          go_wp2_with fail
          go_quiet (fail)
          go_wp2
          go_ret
          exact ⟨ret_bool Hf.out.symm, (pure_drewN _ n).then_ (pure_drewN _ _)⟩
      · have e : i = l.length := by omega
        subst e
        have hlt' : ¬ (l.length : Int) < (l.length : Int) := by omega
        have Hf := hid (ssame_full Hl.out ht)
        clear ht
        go_wp2
        go_ret
        exact ⟨ret_bool Hf.out.symm, pure_drewN _ _⟩
  · have Hf := hid (ssame_short hl)
    have hne : ((l.length : Int) != (k.length : Int)) = true := by simp; omega
    go_enter Tryz.func32, Tryz.ntmps32
    clear hl
    go_wp2
    go_ret
    exact ⟨ret_bool Hf.out.symm, Below.refl _ _⟩

end Go.Proofs.YtdlpnhfgjficgaaGreat
