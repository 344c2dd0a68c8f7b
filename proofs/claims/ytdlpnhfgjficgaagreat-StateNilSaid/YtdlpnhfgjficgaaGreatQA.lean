/- ctx.taken. -/
import Derived.Test.YtdlpnhfgjficgaaGreatMCm
import Derived.Test.YtdlpnhfgjficgaaGreatSuf
namespace Go.Proofs.YtdlpnhfgjficgaaGreat
open Go.RowKit Go.Maps

structure TkP (u : Int) (v : Value) (l : List Dot) (w : World) (e : Ending) (w' : World) : Prop where
  ex : ∃ v', e = .returned (.tuple #[.int .i64 (takenL u l).1, v']) ∧ Dots w' v' (takenL u l).2 ∧ (∀ k, v'.rb = some k → v.rb = some k)
  pure : Pure w w'
theorem takenL_nil (u : Int) : takenL u [] = (u, []) := rfl
theorem takenL_far {u : Int} {d : Dot} {l : List Dot} (h : u + 1 < d.2) : takenL u (d :: l) = (u, d :: l) := by simp [takenL, h]
theorem takenL_near {u : Int} {d : Dot} {l : List Dot} (h : ¬ u + 1 < d.2) : takenL u (d :: l) = takenL (max u d.2) l := by simp [takenL, h]

set_option maxHeartbeats 1000000 in
theorem taken_any (u : Int) (v : Value) (l : List Dot) (w : World) (hr : Dots w v l) (h0 : 0 ≤ u) (h1 : u ≤ 1152921504606846976) (hl : ∀ d ∈ l, d.2 ≤ 1152921504606846976) :
    Calls Tryz.prog 182 #[.int .i64 u, v] w (TkP u v l w) := by
  have Hr := hid hr
  have H0 := hid h0
  have H1 := hid h1
  have Hl := hid hl
  clear hr h0 h1 hl
  go_enter Tryz.func182, Tryz.ntmps182
  go_wp2_with fail
  go_step3
  go_wp2_with fail
  go_step3
  go_wp2_with fail
  go_loopw [0, 1] (fun a b wr => ∃ (u' : Int) (l' : List Dot), a = .int .i64 u' ∧ Dots wr b l' ∧ takenL u' l' = takenL u l ∧ 0 ≤ u' ∧ u' ≤ 1152921504606846976 ∧ (∀ d ∈ l', d.2 ≤ 1152921504606846976) ∧ (∀ k, b.rb = some k → v.rb = some k) ∧ Pure w wr) (fun _ b _ => vlen b)
  case atStart => exact ⟨u, l, rfl, Hr.out, rfl, H0.out, H1.out, Hl.out, fun _ h => h, Below.refl _ _⟩
  case round =>
    obtain ⟨u', l', rfl, hd, ht, b0, b1, hls, hrb, hp⟩ := hrel
    obtain ⟨a, cap, rfl⟩ := hd.shape
    have hlen := hd.len_le
    unfold maxLen at hlen
    have Ht := hid ht
    have Hrb := hid hrb
    have Hp := hid hp
    have Hd := hid hd
    clear ht hrb hp
    cases l' with
    | nil =>
      have hz : ¬ (0 : Int) < (([] : List Dot).length : Int) := by simp
      clear hd hls
      go_wp2
      exact bodyPost_ret (v := .tuple #[.int .i64 u', .slice a ([] : List Dot).length cap]) (by simp [results, Tryz.results182, go_sem]) rfl ⟨⟨_, by rw [← Ht.out]; rfl, by rw [← Ht.out]; exact Hd.out, Hrb.out⟩, Hp.out⟩
    | cons d l2 =>
      obtain ⟨b, off, rfl, hb, c0, c1⟩ := hd.get (k := 0) (by simp)
      have hz : (0 : Int) < ((d :: l2).length : Int) := by simp only [List.length_cons]; omega
      have hdm := hls d (by simp)
      have Hls := hid (fun x (hx : x ∈ l2) => hls x (List.mem_cons_of_mem _ hx))
      obtain ⟨x, y⟩ := d
      simp only [List.getD_cons_zero, Nat.zero_mul, Nat.add_zero] at c0 c1
      dsimp only at hdm
      by_cases hf : u' + 1 < y
      · have Hf := hid (takenL_far (d := (x, y)) (l := l2) hf)
        clear hd hls
        generalize hL : (x, y) :: l2 = L at *
        clear hL
        go_wp2
        exact bodyPost_ret (v := .tuple #[.int .i64 u', .slice (some ⟨b, off, none⟩) L.length cap]) (by simp [results, Tryz.results182, go_sem]) rfl ⟨⟨_, by rw [← Ht.out, Hf.out], by rw [← Ht.out, Hf.out]; exact Row.pure Hd.out ((Below.refl _ _).alloc (Nat.le_refl _) _), Hrb.out⟩, Hp.out.alloc Hp.out.size _⟩
      · have Hf := hid (takenL_near (d := (x, y)) (l := l2) hf)
        obtain ⟨v1, hv1, hrow, hrb1⟩ := slice_suf_off (P := Tryz.prog) Tryz.underlying30 hd (k := 1) (by simp) (.inr ⟨_, _, rfl⟩) sizeDot
        have Hrow := hid hrow
        have Hrb1 := hid hrb1
        have hnf : ¬ u' + 1 < y := hf
        have hnf2 : y ≤ u' + 1 := by omega
        clear hd hls hf hrow hrb1 hv1
        generalize hL : (x, y) :: l2 = L at *
        have hLl : L.length = l2.length + 1 := by rw [← hL]; simp
        have hcap : L.length ≤ cap := by obtain ⟨_, a', c', e, q1, q2, _⟩ := Hd.out; cases e; exact q1
        have Hm := hid (show (if u' < y then y else u') = max u' y by omega)
        have Hm1 := hid (show max u' y ≤ 1152921504606846976 by omega)
        have Hm0 := hid (show 0 ≤ max u' y by omega)
        have Hpa : Hid (∀ o, Pure wr (wr.alloc o)) := fun o => (Below.refl _ _).alloc (Nat.le_refl _) o
        have HL := hid hL
        clear hL
        have hdr : (dvs L).drop (1 * 2) = dvs l2 := by rw [← HL.out]; rfl
        by_cases hc : cap = 1
        · have Hdr := hid hdr
          clear hdr
          go_wp2
          go_roundw
          case rel =>
            refine ⟨max u' y, l2, by rw [← Hm.out], ?_, by rw [← Ht.out, ← Hf.out], Hm0.out, Hm1.out, Hls.out, fun k hk => by simp [Value.rb] at hk, Hp.out.then_ (Hpa.out _)⟩
            have := l2.length
            obtain rfl : l2 = [] := List.eq_nil_of_length_eq_zero (by omega)
            exact ⟨rfl, _, _, rfl, Nat.le_refl _, Nat.zero_le _, .inl rfl⟩
          case measure => simp [vlen]; omega
        · have Hsuf := hid (fun W (hW : Pure wr W) => row_suf (Row.pure Hd.out hW) (k := 1) (by omega))
          rw [hdr, Nat.one_mul, show L.length - 1 = l2.length by omega] at Hsuf
          clear hdr
          go_wp2
          go_roundw
          case rel =>
            refine ⟨max u' y, l2, by rw [← Hm.out], Hsuf.out _ (Hpa.out _), by rw [← Ht.out, ← Hf.out], Hm0.out, Hm1.out, Hls.out, fun k hk => Hrb.out k ?_, Hp.out.then_ (Hpa.out _)⟩
            simp only [Value.rb] at hk ⊢
            rw [if_neg (by omega)] at hk
            rw [if_neg (by omega)]; exact hk
          case measure => simp [vlen]; omega
end Go.Proofs.YtdlpnhfgjficgaaGreat
