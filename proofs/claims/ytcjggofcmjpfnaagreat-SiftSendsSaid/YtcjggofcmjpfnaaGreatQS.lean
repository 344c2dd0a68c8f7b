/- ref01's Same: two lists of numbers. -/
import Derived.Test.YtcjggofcmjpfnaaGreatHas
namespace Go.Proofs.YtcjggofcmjpfnaaGreat
open Go.RowKit Go.Maps



/-- ref01's Same. -/
theorem same_short {l k : List Int} (h : l.length ≠ k.length) : decide (l = k) = false := by simp; exact fun e => h (by rw [e])
theorem same_take {l k : List Int} {i : Nat} (h : l.take i = k.take i) (h1 : i < l.length) (h2 : i < k.length) (e : l.getD i 0 = k.getD i 0) : l.take (i + 1) = k.take (i + 1) := by
  rw [take_succ_get l i h1, take_succ_get k i h2, h, e]
theorem same_full {l k : List Int} (h : l.length = k.length) (e : l.take l.length = k.take l.length) : decide (l = k) = true := by rw [List.take_length, h, List.take_length] at e; simp [e]
theorem same_not {l k : List Int} {i : Nat} (e : ¬ l.getD i 0 = k.getD i 0) : decide (l = k) = false := by simp; exact fun h => e (by rw [h])

set_option maxHeartbeats 1000000 in
theorem same_any (v u : Value) (l k : List Int) (w : World) (hv : Ints w v l) (hu : Ints w u k) :
    Calls Tryz.prog 17 #[v, u] w fun e w' => e = .returned (.bool (decide (l = k))) ∧ Pure w w' := by
  obtain ⟨a, ca, rfl⟩ := hv.shape
  obtain ⟨b, cb, rfl⟩ := hu.shape
  obtain ⟨_, h1, h2, hc⟩ := hv.cell
  obtain ⟨_, h3, h4, hd⟩ := hu.cell
  unfold maxLen at h2 h4
  clear hv hu
  by_cases hl : l.length = k.length
  · go_enter Tryz.func17, Tryz.ntmps17
    have hne : ((l.length : Int) != (k.length : Int)) = false := by simp [hl]
    have hl1 : l.length ≤ k.length := by omega
    have hl2 : k.length ≤ l.length := by omega
    have Hl := hid hl
    clear hl
    go_wp2
    go_loopw [5] (fun x wr => ∃ i : Nat, i ≤ l.length ∧ x = .int .i64 i ∧ l.take i = k.take i ∧ ∃ n, wr = w.drewN n) (fun x _ => l.length - (RowKit.intOf x).toNat)
    case atStart => exact ⟨0, Nat.zero_le _, rfl, by simp, 0, rfl⟩
    case round =>
      obtain ⟨i, hi, rfl, ht, n, rfl⟩ := hrel
      by_cases hlt : i < l.length
      · have hlk : i < k.length := by omega
        obtain ⟨ba, oa, rfl, hx⟩ : ∃ b off, a = some ⟨b, off, none⟩ ∧ w.cell? ⟨b, off + i, none⟩ = some (.int .i64 (l.getD i 0)) := by
          rcases hc with ⟨h, _⟩ | ⟨b, off, rfl, _, hcell⟩
          · rw [h] at hlt; exact absurd hlt (Nat.not_lt_zero _)
          · exact ⟨b, off, rfl, hcell i hlt⟩
        obtain ⟨bb, ob, rfl, hy⟩ : ∃ b_1 off, b = some ⟨b_1, off, none⟩ ∧ w.cell? ⟨b_1, off + i, none⟩ = some (.int .i64 (k.getD i 0)) := by
          rcases hd with ⟨h, _⟩ | ⟨b, off, rfl, _, hcell⟩
          · rw [h] at hlk; exact absurd hlk (Nat.not_lt_zero _)
          · exact ⟨b, off, rfl, hcell i hlk⟩
        have Hs := hid (same_take ht hlt hlk)
        have Hn := hid (@same_not l k i)
        have hlt' : (i : Int) < (l.length : Int) := by omega
        have hlk' : (i : Int) < (k.length : Int) := by omega
        clear hc hd ht
        generalize l.getD i 0 = x at *
        generalize k.getD i 0 = y at *
        by_cases hxy : x = y
        · have hb : (x != y) = false := by simp [hxy]
          have Hs' := hid (Hs.out hxy)
          clear hxy Hs Hn
          go_wp2_with fail
          go_quiet (fail)
          go_wp2
          go_roundw
          case rel => exact ⟨i + 1, by omega, by go_num, Hs'.out, _, rfl⟩
          case measure => simp [RowKit.intOf]; omega
        · have hb : (x != y) = true := by simp [hxy]
          have Hf := hid (Hn.out hxy)
          clear hxy Hs Hn
          go_wp2_with fail
          go_quiet (fail)
          go_wp2
          go_ret
          exact ⟨ret_bool Hf.out.symm, rfl, rfl, rfl, Nat.le_refl _, fun _ _ => rfl⟩
      · have e : i = l.length := by omega
        subst e
        have Hf := hid (same_full Hl.out ht)
        clear hc hd ht
        go_wp2
        go_ret
        exact ⟨ret_bool Hf.out.symm, pure_drewN _ _⟩
  · have Hf := hid (same_short hl)
    have hne : ((l.length : Int) != (k.length : Int)) = true := by simp; omega
    clear hc hd
    go_enter Tryz.func17, Tryz.ntmps17
    go_wp2
    go_ret
    exact ⟨ret_bool Hf.out.symm, Below.refl _ _⟩
end Go.Proofs.YtcjggofcmjpfnaaGreat
