import Derived.Test.YthghccccjmbjlaaStays
namespace Go.Proofs.Ythghccccjmbjlaa
open Go.RowKit Go.Maps
/-! TallyCounts. -/
section
variable {b bm : Nat} {vo : Value} {w0 w : World} {c : TM}
theorem missing_s (h : TS b bm vo w0 c w) :
    Calls Try.prog 13 #[.pointer (some ⟨b, 0, none⟩)] w fun e w' => ∃ v', e = .returned v' ∧ Ints w' v' c.missing ∧ Pure w w' ∧ TS b bm vo w0 c w' :=
  (missing_any b bm vo c w h.at_).mono fun _ _ ⟨v', h1, h2, h3⟩ => ⟨v', h1, Row.of_own h2, h3, h.at_.pure h3, h.kept.trans (Pure.kept h3)⟩
theorem all_s (h : TS b bm vo w0 c w) :
    Calls Try.prog 17 #[.pointer (some ⟨b, 0, none⟩)] w fun e w' => ∃ v', e = .returned v' ∧ Ints w' v' (srt c.yes) ∧ Pure w w' ∧ TS b bm vo w0 c w' :=
  (all_any b bm vo c w h.at_).mono fun _ _ ⟨v', h1, h2, h3⟩ => ⟨v', h1, Row.of_own h2, h3, h.at_.pure h3, h.kept.trans (Pure.kept h3)⟩
theorem others_p (h : TS b bm vo w0 c w) :
    Calls Try.prog 15 #[.pointer (some ⟨b, 0, none⟩)] w fun e w' => ∃ v', e = .returned v' ∧ Ints w' v' c.others ∧ Pure w w' ∧ TS b bm vo w0 c w' :=
  (others_any b bm vo c w h.at_).mono fun _ _ ⟨v', h1, h2, h3⟩ => ⟨v', h1, Row.of_own h2, h3, h.at_.pure h3, h.kept.trans (Pure.kept h3)⟩
end
theorem srt_mem {l : List Int} {x : Int} : x ∈ srt l ↔ x ∈ l := (show (srt l).Perm l from List.mergeSort_perm _ _).mem_iff
theorem ints_get {w : World} {a : Option Addr} {n cap : Nat} {l : List Int} (h : Ints w (.slice a n cap) l) {k : Nat} (hk : k < l.length) : ∃ b off, a = some ⟨b, off, none⟩ ∧ w.cell? ⟨b, off + k, none⟩ = some (.int .i64 (l.getD k 0)) := by
  obtain ⟨_, _, _, hc⟩ := h.cell
  rcases hc with ⟨h, _⟩ | ⟨bl, off, h, _, hc⟩
  · rw [h] at hk; exact absurd hk (Nat.not_lt_zero _)
  · exact ⟨bl, off, h, hc k hk⟩
/-- What was there lies there still, behind the tally's own changes. -/
theorem TS.ints {b bm : Nat} {vo v : Value} {w0 w : World} {c : TM} {l : List Int} (h : TS b bm vo w0 c w) (hv : Ints w0 v l) (h1 : ∀ k, v.rb = some k → k < b) (h2 : ∀ k, v.rb = some k → k < bm) : Ints w v l :=
  Row.kept hv h.kept (fun k hk (h : k = b ∨ k = bm) => by rcases h with h | h; exact absurd (h1 _ hk) (by omega); exact absurd (h2 _ hk) (by omega))
theorem own_eq {O L : List Int} {x : Int} (m : Int) (hx : x ∈ O) : decide (x ∈ srt (dd L)) = !decide (x ∈ (TM.mk (dd O) m (dd L)).missing) := by
  have h : x ∈ dd O := (dd_mem O x).2 hx
  unfold TM.missing
  by_cases hy : x ∈ dd L <;> simp [srt_mem, h, hy]
theorem own_no {O L : List Int} {x : Int} (m : Int) (hx : x ∈ O) : decide (x ∈ (TM.mk (dd O) m (dd L)).others) = false := by
  have h : x ∈ dd O := (dd_mem O x).2 hx
  unfold TM.others
  simp [h]
theorem node_yes {L : List Int} {x : Int} (hx : x ∈ L) : decide (x ∈ srt (dd L)) = true := by simp [srt_mem, dd_mem, hx]
theorem node_or {O L : List Int} {x : Int} (m : Int) (hx : x ∈ L) : decide (x ∈ (TM.mk (dd O) m (dd L)).others) = !decide (x ∈ O) := by
  unfold TM.others
  by_cases hy : x ∈ O <;> simp [srt_mem, dd_mem, hx, hy]
theorem mem_getD {l : List Int} {k : Nat} (h : k < l.length) : l.getD k 0 ∈ l := by simp [List.getD, h]
theorem in_at {v : Value} {l : List Int} {x : Int} {w : World} (hr : Ints w v l) (r : Bool) (h : decide (x ∈ l) = r) :
    Calls Try.prog 26 #[v, .int .i64 x] w fun e w' => e = .returned (.bool r) ∧ w = w' := by subst h; exact in_any v l x w hr

set_option maxHeartbeats 2000000 in
theorem counts_walk (v1 v2 : Value) (o l : List Int) (w : World) (h1 : Ints w v1 o) (h2 : Ints w v2 l) (w1 : AllWf o) (w2 : AllWf l) :
    Calls Try.prog 7 #[v1, v2] w fun e w' => e = .returned (.bool true) ∧ Pure w w' := by
  have Hw := hid (awake_any w)
  obtain ⟨a1, c1, rfl⟩ := h1.shape
  obtain ⟨a2, c2, rfl⟩ := h2.shape
  have H1 := hid h1
  have H2 := hid h2
  clear h1 h2
  go_enter Try.func7, Try.ntmps7
  go_wp2_with fail
  refine Hw.out.mono ?_
  rintro e w3 ⟨rfl, hp3⟩
  go_wp2_with fail
  refine (few_any _ o w3 (H1.out.pure hp3)).mono ?_
  rintro e w' ⟨v1, rfl, hi1, hb1, rfl⟩
  obtain ⟨a1', c1', rfl⟩ := hi1.shape
  go_wp2_with fail
  refine (few_any _ l w3 (H2.out.pure hp3)).mono ?_
  rintro e w' ⟨v2, rfl, hi2, hb2, rfl⟩
  obtain ⟨a2', c2', rfl⟩ := hi2.shape
  go_wp2_with fail
  refine (new_ok _ (few o) 1 w3 hi1 (by have := few_le o; omega) (few_wf w1) (by omega)).mono ?_
  rintro e w4 ⟨b, bm, vo, rfl, hA, hb, hbm, hvo, hp⟩
  have HL := hid (show Ints w4 _ _ from hi2.pure hp)
  have HO := hid (show Ints w4 _ _ from hi1.pure hp)
  have hwl := few_wf w2
  have hlen := few_le l
  have hleno := few_le o
  have HP := hid (hp3.then_ hp)
  have hsz : w.heap.size ≤ w3.heap.size := hp3.size
  have hlt1 := hid (fun k hk => Nat.lt_of_lt_of_le (Row.lt hi1 k hk) hb)
  have hlt1' := hid (fun k hk => Nat.lt_of_lt_of_le (Row.lt hi1 k hk) hbm)
  have hlt2 := hid (fun k hk => Nat.lt_of_lt_of_le (Row.lt hi2 k hk) hb)
  have hlt2' := hid (fun k hk => Nat.lt_of_lt_of_le (Row.lt hi2 k hk) hbm)
  clear hi1 hi2 hb1 hb2 hp hp3
  generalize few l = L at *
  generalize few o = O at *
  go_wp2_with fail
  go_loopw [9] (fun i wr => ∃ k : Nat, k ≤ L.length ∧ i = .int .i64 k ∧ TS b bm vo w4 (TM.at_ O L 1 k) wr) (fun i _ => L.length - (RowKit.intOf i).toNat)
  case atStart => exact ⟨0, Nat.zero_le _, rfl, hA, Kept.refl _ _⟩
  case round =>
    obtain ⟨k, hk, rfl, hT⟩ := hrel
    by_cases hlt : k < L.length
    · have hx := hwl.get hlt
      obtain ⟨bl, off, rfl, hc⟩ := ints_get (hT.ints HL.out hlt2.out hlt2'.out) hlt
      have hstep := hid (TM.step O L 1 k hlt)
      have hln := hid (show (TM.at_ O L 1 k).yes.length < 1000 by have := dd_len (L.take k); rw [List.length_take] at this; show (dd (L.take k)).length < 1000; omega)
      have hlt' : (k : Int) < (L.length : Int) := by omega
      generalize L.getD k 0 = x at *
      go_wp2_with fail
      refine (yes_s hT x hx hln.out _ rfl _ hstep.out).mono ?_
      rintro e w7 ⟨rfl, hT7⟩
      go_wp2
      go_roundw
      case rel => exact ⟨k + 1, by omega, by go_num, hT7⟩
      case measure => simp [RowKit.intOf]; omega
    · have hTe : TS b bm vo w4 ⟨dd O, 1, dd L⟩ wr := by
        have : TM.at_ O L 1 k = ⟨dd O, 1, dd L⟩ := by unfold TM.at_; rw [List.take_of_length_le (by omega)]
        rw [← this]; exact hT
      obtain rfl : k = L.length := by omega
      clear hT
      go_wp2_with fail
      refine (all_s hTe).mono ?_
      rintro e w5 ⟨va, rfl, ha5, hp5, hT5⟩
      obtain ⟨aa, ca, rfl⟩ := ha5.shape
      go_wp2_with fail
      refine (missing_s hT5).mono ?_
      rintro e w6 ⟨vm, rfl, hm6, hp6, hT6⟩
      obtain ⟨am, cm, rfl⟩ := hm6.shape
      have ha6 := ha5.pure hp6
      go_wp2_with fail
      refine (others_p hT6).mono ?_
      rintro e w7 ⟨vt, rfl, ht7, hp7, hT7⟩
      obtain ⟨at_, ct, rfl⟩ := ht7.shape
      have hm7 := hid (show Ints w7 _ _ from hm6.pure hp7)
      have ha7 := hid (show Ints w7 _ _ from ha6.pure hp7)
      have ht7' := hid ht7
      have hL7 := hid (hT7.ints HL.out hlt2.out hlt2'.out)
      have hO7 := hid (hT7.ints HO.out hlt1.out hlt1'.out)
      have HT7 := hid hT7
      clear ht7 hm6 ha6 ha5 hp5 hp6 hp7 hT5 hT6 hT7 hTe
      have hlm := hid (fun (k : Nat) (h : k < O.length) => own_eq (L := L) 1 (mem_getD h))
      have hlo := hid (fun (k : Nat) (h : k < O.length) => own_no (L := L) 1 (mem_getD h))
      have hly := hid (fun (k : Nat) (h : k < L.length) => node_yes (mem_getD h))
      have hlz := hid (fun (k : Nat) (h : k < L.length) => node_or (O := O) 1 (mem_getD h))
      go_wp2_with fail
      go_loop [13] (fun i => ∃ k : Nat, k ≤ O.length ∧ i = .int .i64 k) (fun i => O.length - (RowKit.intOf i).toNat)
      case atStart => exact ⟨0, Nat.zero_le _, rfl⟩
      case round =>
        obtain ⟨k, hk, rfl⟩ := hrel
        by_cases hlt : k < O.length
        · obtain ⟨bo, offo, rfl, hc⟩ := ints_get hO7.out hlt
          have hlm' := hlm.out k hlt
          have hlo' := hid (hlo.out k hlt)
          have hlt' : (k : Int) < (O.length : Int) := by omega
          obtain ⟨Y, hY⟩ : ∃ Y, Y = decide (O.getD k 0 ∈ (TM.mk (dd O) 1 (dd L)).missing) := ⟨_, rfl⟩
          rw [← hY] at hlm'
          have HY := hid hY.symm
          have Hlm := hid hlm'
          have hb : ((!Y) == Y) = false := by cases Y <;> rfl
          clear hlm' hY
          generalize O.getD k 0 = x at *
          go_wp2_with fail
          refine (in_at ha7.out _ Hlm.out).mono ?_
          rintro e w' ⟨rfl, rfl⟩
          go_wp2_with fail
          refine (in_at hm7.out _ HY.out).mono ?_
          rintro e w' ⟨rfl, rfl⟩
          go_wp2_with fail
          refine (in_at ht7'.out _ hlo'.out).mono ?_
          rintro e w' ⟨rfl, rfl⟩
          go_wp2
          go_round
          case rel => exact ⟨k + 1, by omega, by go_num⟩
          case measure => simp [RowKit.intOf]; omega
        · go_wp2_with fail
          go_loop [17] (fun i => ∃ k : Nat, k ≤ L.length ∧ i = .int .i64 k) (fun i => L.length - (RowKit.intOf i).toNat)
          case atStart => exact ⟨0, Nat.zero_le _, rfl⟩
          case round =>
            obtain ⟨k, hk, rfl⟩ := hrel
            by_cases hlt : k < L.length
            · obtain ⟨bo, offo, rfl, hc⟩ := ints_get hL7.out hlt
              have hly' := hid (hly.out k hlt)
              have hlz' := hlz.out k hlt
              have hlt' : (k : Int) < (L.length : Int) := by omega
              obtain ⟨Z, hZ⟩ : ∃ Z, Z = decide (L.getD k 0 ∈ O) := ⟨_, rfl⟩
              rw [← hZ] at hlz'
              have HZ := hid hZ.symm
              have Hlz := hid hlz'
              have hb : ((!Z) == Z) = false := by cases Z <;> rfl
              clear hlz' hZ
              generalize L.getD k 0 = x at *
              go_wp2_with fail
              refine (in_at ha7.out _ hly'.out).mono ?_
              rintro e w' ⟨rfl, rfl⟩
              go_wp2_with fail
              refine (in_at ht7'.out _ Hlz.out).mono ?_
              rintro e w' ⟨rfl, rfl⟩
              go_wp2_with fail
              refine (in_at hO7.out _ HZ.out).mono ?_
              rintro e w' ⟨rfl, rfl⟩
              go_wp2
              go_round
              case rel => exact ⟨k + 1, by omega, by go_num⟩
              case measure => simp [RowKit.intOf]; omega
            · have hoo := owned_others (c := ⟨dd O, 1, dd L⟩) (dd_nodup _) (dd_nodup _)
              have hge := owned_ge ⟨dd O, 1, dd L⟩
              have hdo := dd_len O
              have hdL := dd_len L
              have Ho := hid (owned_s HT7.out)
              have hge' : (TM.mk (dd O) 1 (dd L)).owned ≤ (dd O).length := hge.2
              have hoo' : (TM.mk (dd O) 1 (dd L)).owned + ((TM.mk (dd O) 1 (dd L)).others.length : Int) = ((srt (dd L)).length : Int) := by rw [srt_len]; exact hoo
              have Hn : (srt (dd L)).length = (dd L).length := srt_len _
              have Hd : decide ((TM.mk (dd O) 1 (dd L)).need ≤ ((TM.mk (dd O) 1 (dd L)).yes.length : Int)) = decide (0 < ((srt (dd L)).length : Int)) := by
                rw [Hn]; show decide ((1 : Int) ≤ ((dd L).length : Int)) = _
                rw [decide_eq_decide]; omega
              have hge0 := hge.1
              clear hoo hge hlm hlo hly hlz
              have Hd' := hid Hd
              clear Hd
              generalize (TM.mk (dd O) 1 (dd L)).owned = y at *
              generalize (TM.mk (dd O) 1 (dd L)).others.length = q at *
              generalize (srt (dd L)).length = n at *
              have hb : ((y + (q : Int)) == (n : Int)) = true := by simpa using hoo'
              go_wp2_with fail
              refine Ho.out.mono ?_
              rintro e w8 ⟨rfl, hT8⟩
              go_wp2_with fail
              refine (done_s hT8 _ Hd'.out).mono ?_
              rintro e w9 ⟨rfl, hT9⟩
              have Hk := hid hT9.kept
              clear hT8 hT9
              have fin : Pure w w9 := HP.out.kept_then Hk.out (fun k (hk : k = b ∨ k = bm) => by omega)
              by_cases hn : 0 < n
              · have : (0 : Int) < (n : Int) := by omega
                go_wp2
                go_ret
                exact ⟨rfl, fin⟩
              · have : ¬ (0 : Int) < (n : Int) := by omega
                go_wp2
                go_ret
                exact ⟨rfl, fin⟩
end Go.Proofs.Ythghccccjmbjlaa
