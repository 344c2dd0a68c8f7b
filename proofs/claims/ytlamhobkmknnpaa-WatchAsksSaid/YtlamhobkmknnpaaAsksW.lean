/- law10: WatchAsks. -/
import Derived.Test.YtlamhobkmknnpaaMade
namespace Go.Proofs.Ytlamhobkmknnpaa
open Go.RowKit Go.Maps Go.MapKept

def dueK (k i : Nat) : Nat := if i % k = 0 then i else i - i % k + k
theorem filt_add (p : Int → Bool) : ∀ l : List Int, (l.filter p).length + (l.filter fun x => !p x).length = l.length
  | [] => rfl
  | a :: l => by
    have ih := filt_add p l
    by_cases h : p a = true
    · simp [h]; omega
    · simp [h]; omega
theorem dueK_lt (k i : Nat) (hk : 1 ≤ k) : i < dueK k i ↔ i % k ≠ 0 := by
  unfold dueK
  have h1 := Nat.mod_lt i (show 0 < k by omega)
  generalize i % k = r at *
  split <;> omega
theorem dueK_next (k i : Nat) (hk : 1 ≤ k) : dueK k (i + 1) = if i % k = 0 then i + k else dueK k i := by
  have h1 := Nat.mod_lt i (show 0 < k by omega)
  have hle := Nat.mod_le i k
  by_cases hz : (i + 1) % k = 0
  · have h2 : i % k + 1 = k := by
      rcases Nat.lt_or_ge (i % k + 1) k with h | h
      · have : (i + 1) % k = i % k + 1 := by
          by_cases k1 : k = 1
          · omega
          · rw [Nat.add_mod, Nat.mod_eq_of_lt (a := 1) (by omega), Nat.mod_eq_of_lt h]
        omega
      · omega
    unfold dueK
    rw [if_pos hz]
    generalize i % k = r at *
    split
    · omega
    · omega
  · have hm : (i + 1) % k = i % k + 1 := by
      have hk1 : k ≠ 1 := fun e => hz (by rw [e]; exact Nat.mod_one _)
      rcases Nat.lt_or_ge (i % k + 1) k with h | h
      · rw [Nat.add_mod, Nat.mod_eq_of_lt (a := 1) (by omega), Nat.mod_eq_of_lt h]
      · have h3 : i % k + 1 = k := by omega
        have : (i + 1) % k = 0 := by rw [Nat.add_mod, Nat.mod_eq_of_lt (a := 1) (by omega), h3, Nat.mod_self]
        exact absurd this hz
    unfold dueK
    rw [if_neg hz, hm]
    generalize i % k = r at *
    split
    · omega
    · omega
theorem pfind_isSome {l : List Pr} {x : Int} : (pfind l x).isSome = true ↔ x ∈ l.map (·.id) := by
  unfold pfind
  rw [List.find?_isSome]
  constructor
  · rintro ⟨p, hp, h⟩; exact List.mem_map.2 ⟨p, hp, by simpa using h⟩
  · intro h; obtain ⟨p, hp, h⟩ := List.mem_map.1 h; exact ⟨p, hp, by simpa using h⟩
structure AskI (k i : Nat) (S : WS) (l : List Pr) : Prop where
  ok : WOk i S
  own : S.own = 2
  period : S.period = k
  due : S.due = dueK k i
  clock : S.clock ≤ i
  pok : POk l
  len : l.length ≤ 8
  st : ∀ p ∈ l, 0 ≤ p.st ∧ p.st ≤ 1
  nd : (l.map (·.id)).Nodup
  me : (2 : Int) ∈ l.map (·.id)
theorem mem_all {l : List Pr} (h : ∀ p ∈ l, 0 ≤ p.st ∧ p.st ≤ 1) : mem l = l.map (·.id) := by
  unfold mem
  rw [List.filter_eq_self.2]
  intro p hp
  have := h p hp
  simp; omega
theorem others_ne {l : List Pr} (h : ∀ p ∈ l, 0 ≤ p.st ∧ p.st ≤ 1) (hnd : (l.map (·.id)).Nodup) (hm : (2 : Int) ∈ l.map (·.id)) : others l 2 = [] ↔ ¬ 1 < (mem l).length := by
  unfold others
  rw [mem_all h]
  generalize l.map (·.id) = I at *
  have he : (I.filter fun x => !(x == 2)).length + 1 = I.length := by
    have h1 : (I.filter fun x => x == 2).length = 1 := by
      have h2 : I.count 2 = 1 := hnd.count.trans (if_pos hm)
      rw [List.count_eq_countP, List.countP_eq_length_filter] at h2
      exact h2
    have h3 := filt_add (fun x => x == 2) I
    omega
  constructor
  · intro h0; rw [h0] at he; simp at he; omega
  · intro h0; exact List.eq_nil_of_length_eq_zero (by omega)
theorem AskI.next {k i : Nat} {S : WS} {l : List Pr} {draw : Int} (h : AskI k i S l) (hi : i ≤ 40) (hk : 1 ≤ k) :
    AskI k (i + 1) (tick S l i draw).2 (tickN S l i) ∧ (tick S l i draw).1.2.1 = (decide (i % k = 0) && decide (1 < (mem (tickN S l i)).length)) ∧
    ((tick S l i draw).1.2.1 = true → (tick S l i draw).1.1 ≠ 2 ∧ ∃ p, pfind (tickN S l i) (tick S l i draw).1.1 = some p ∧ p.st ≠ 2) ∧ ((tick S l i draw).1.2.1 = false → (tick S l i draw).1.1 = 0) := by
  have hst : ∀ p ∈ tickN S l i, 0 ≤ p.st ∧ p.st ≤ 1 := tickN_all (Q := fun p => 0 ≤ p.st ∧ p.st ≤ 1) (fun p hp => by unfold sus1; split; simp; exact hp) (fun p hp => by unfold ref1; split; simp; exact hp) h.st
  have hids := tickN_ids S l i
  have hnd : ((tickN S l i).map (·.id)).Nodup := by rw [hids]; exact h.nd
  have hme : (2 : Int) ∈ (tickN S l i).map (·.id) := by rw [hids]; exact h.me
  have hmx : max S.clock (i : Int) = i := by have := h.clock; omega
  obtain ⟨f1, f2, f3, f4, f5⟩ := tick_fix S l i draw
  have hlt : ((i : Int) < S.due) ↔ i % k ≠ 0 := by
    rw [h.due, ← dueK_lt k i hk]; omega
  refine ⟨⟨tick_wok h.ok h.pok (by have := h.len; omega) (by omega), by rw [f1]; exact h.own, by rw [f2]; exact h.period, ?_, by rw [f4, hmx]; omega, tickN_pok h.pok, by rw [tickN_len]; exact h.len, hst, hnd, hme⟩, ?_, ?_, tick_zero⟩
  · rw [f5, hmx, dueK_next k i hk, h.period]
    by_cases hz : i % k = 0
    · rw [if_neg (fun e => (hlt.1 e) hz), if_pos hz]; omega
    · rw [if_pos (hlt.2 hz), if_neg hz, h.due]
  · rw [tick_ok, hmx, h.own]
    have ho := others_ne hst hnd hme
    by_cases hz : i % k = 0
    · have h1 : ¬ (i : Int) < S.due := fun e => (hlt.1 e) hz
      by_cases h2 : others (tickN S l i) 2 = []
      · simp [h1, h2, hz, ho.1 h2]
      · have h3 : 1 < (mem (tickN S l i)).length := by
          rcases Nat.lt_or_ge 1 (mem (tickN S l i)).length with h | h
          · exact h
          · exact absurd (ho.2 (by omega)) h2
        simp [h1, h2, hz, h3]
    · have h1 : (i : Int) < S.due := hlt.2 hz
      simp [h1, hz]
  · intro hok
    have ha := others_mem (tick_ask hok)
    rw [h.own] at ha
    refine ⟨ha.2, ?_⟩
    have hm := ha.1
    rw [mem_all hst] at hm
    obtain ⟨p, hp⟩ := Option.isSome_iff_exists.1 (pfind_isSome.2 hm)
    exact ⟨p, hp, by have := hst p (List.mem_of_find?_eq_some hp); omega⟩
theorem asks_first {M : List Pr} (h : VOk M) : (2 : Int) ∈ (pput M ⟨2, 0, 0⟩).map (·.id) := by
  refine pfind_isSome.1 ?_
  rw [show (2 : Int) = (⟨2, 0, 0⟩ : Pr).id from rfl, h.find]
  rfl
theorem VOk.nd {l : List Pr} (h : VOk l) : (l.map (·.id)).Nodup := by
  rw [List.nodup_iff_pairwise_ne, List.pairwise_map]
  exact h.sorted.imp (fun {a b} h => by omega)
theorem VOk.pok' {l : List Pr} (h : VOk l) : POk l := fun p hp => by have := h.all p hp; omega
set_option maxRecDepth 100000 in
set_option maxHeartbeats 8000000 in
theorem asks_walk (v vd : Value) (L : List Pr) (period : Int) (D : List Int) (w : World) (hv : Peers w v L) (hd : Ints w vd D) : Calls Try.prog 4 #[v, .int .i64 period, vd] w fun e w' => e = .returned (.bool true) ∧ Pure w w' := by
  obtain ⟨ad, cd, rfl⟩ := hd.shape
  obtain ⟨av, cv, rfl⟩ := hv.shape
  have hDl : D.length ≤ maxLen := Row.len_le hd
  unfold maxLen at hDl
  have Hd := hid hd
  have Hv := hid hv
  clear hd hv
  obtain ⟨q, hq⟩ : ∃ q, bits .and .i64 period 7 = q := ⟨_, rfl⟩
  have hqb : 0 ≤ q ∧ q ≤ 7 := by rw [← hq]; exact and7 period
  obtain ⟨K, hK⟩ : ∃ K : Nat, 1 + q = (K : Int) := ⟨(1 + q).toNat, by omega⟩
  have hKb : 1 ≤ K ∧ K ≤ 8 := by omega
  go_enter Try.func4, Try.ntmps4
  go_wp2_with fail
  refine (awake_any w).mono ?_
  rintro e w1 ⟨rfl, hp1⟩
  have Hp1 := hid hp1
  have hmd := hid (made_any _ L w1 (Row.pure Hv.out hp1))
  clear hp1
  go_wp2_with fail
  refine hmd.out.mono ?_
  rintro e w2 ⟨v2, M, rfl, hP2, hV2, hp2⟩
  have HV2 := hid hV2
  have Hp2 := hid (Hp1.out.then_ hp2)
  have hwi := hid (with_any v2 M ⟨2, 0, 0⟩ w2 hP2 (by unfold PB; simp) (by have := hV2.len; omega) (by have := (hV2.put (p := ⟨2, 0, 0⟩) (by simp)).len; omega))
  obtain ⟨a2, c2, rfl⟩ := hP2.shape
  clear hP2 hV2 hp2 hmd
  go_wp2_with fail
  refine hwi.out.mono ?_
  rintro e w3 ⟨v3, rfl, hP3, hp3⟩
  have HV3 := hid (HV2.out.put (p := ⟨2, 0, 0⟩) (by simp))
  have HF3 := hid (asks_first HV2.out)
  have Hp3 := hid (Hp2.out.then_ hp3)
  have HP3 := hid hP3
  generalize pput M ⟨2, 0, 0⟩ = l0 at *
  obtain ⟨a3, c3, rfl⟩ := hP3.shape
  clear hP3 hp3 hwi
  have hnew := hid (wnew_ok 2 (K : Int) 1048576 w3 (by omega) (by omega) (by omega) (by omega))
  obtain ⟨b, hb⟩ : ∃ b, b = w3.heap.size + 1 := ⟨_, rfl⟩
  obtain ⟨mb, hmb⟩ : ∃ mb, mb = w3.heap.size := ⟨_, rfl⟩
  rw [← hb, ← hmb] at hnew
  have hbw : w.heap.size ≤ b ∧ w.heap.size ≤ mb := by have := Hp3.out.size; omega
  have Hoff := hid (show Off b mb (.slice a3 l0.length c3) from fun k hk => by have := Row.lt HP3.out k hk; omega)
  clear hb hmb
  go_wp2_with fail
  refine hnew.out.mono ?_
  rintro e w4 ⟨rfl, hW, hp4⟩
  have HW := hid hW
  have Hp4 := hid (Hp3.out.then_ hp4)
  have HP4 := hid (Row.pure HP3.out hp4)
  clear hW hp4 hnew
  have HDk := hid (fun W (hW : Kept (W2 b mb) w4 W) => (show Ints W (.slice ad D.length cd) D from Row.kept (Row.pure Hd.out Hp4.out) hW (fun k hk e => by
    have := Row.lt Hd.out k hk
    have := hbw
    rcases e with e | e <;> omega)))
  go_wp2
  go_loopw [8, 11, 12, 13, 14, 15, 16, 17] (fun o i _ _ _ _ _ _ wr => ∃ (i' : Nat) (S : WS) (l : List Pr) (vr : Value), i' ≤ D.length ∧ i' ≤ 40 ∧ i = .int .i64 i' ∧ AskI K i' S l ∧ WAt wr b mb vr S ∧ Peers wr o l ∧ Off b mb o ∧ Kept (W2 b mb) w4 wr) (fun _ i _ _ _ _ _ _ _ => D.length - (RowKit.intOf i).toNat)
  case atStart =>
    refine ⟨0, _, l0, _, Nat.zero_le _, by omega, rfl, ⟨⟨?_, ?_, ?_, ?_, ?_, ?_, ?_, ?_, ?_⟩, rfl, rfl, ?_, ?_, HV3.out.pok', HV3.out.len, fun p hp => by have := HV3.out.all p hp; omega, HV3.out.nd, HF3.out⟩, HW.out, HP4.out, Hoff.out, Kept.refl _ _⟩
    all_goals first | (simp; done) | (show 1 ≤ (K : Int) ∧ (K : Int) ≤ 1048576; omega) | (show (0 : Int) = (dueK K 0 : Int); unfold dueK; simp)
  case round =>
    obtain ⟨i, S, l, vr, hi1, hi40, rfl, hI, hW, hPe, hOf, hKe⟩ := hrel
    have HI := hid hI
    have HWr := hid hW
    have HPe := hid hPe
    have HOf := hid hOf
    have HKe := hid hKe
    obtain ⟨al, cl, rfl⟩ := hPe.shape
    clear hI hW hPe hOf hKe
    by_cases hlt : i < D.length ∧ i < 40
    · obtain ⟨l1, l2⟩ := hlt
      have l1' : (i : Int) < (D.length : Int) := by omega
      have l2' : (i : Int) < 40 := by omega
      have hi0 : (0 : Int) ≤ (i : Int) := by omega
      obtain ⟨_, _, _, hc⟩ := (HDk.out wr HKe.out).cell
      obtain ⟨bd, od, rfl, hbd, hdc⟩ : ∃ bd od, ad = some ⟨bd, od, none⟩ ∧ bd < wr.heap.size ∧ wr.cell? ⟨bd, od + i, none⟩ = some (.int .i64 (D.getD i 0)) := by
        rcases hc with ⟨h0, _⟩ | ⟨bd, od, e, hb, hcc⟩
        · rw [h0] at l1; exact absurd l1 (Nat.not_lt_zero _)
        · exact ⟨bd, od, e, hb, hcc i l1⟩
      clear hc
      generalize D.getD i 0 = draw at *
      have Htick := hid (tick_any b mb vr _ S l i i draw wr HWr.out HI.out.ok (by omega) HPe.out HOf.out (by have := HI.out.len; omega) HI.out.pok (by omega))
      have hnx := HI.out.next (draw := draw) hi40 hKb.1
      have HIn := hid hnx.1
      have hB := hnx.2.1
      have hask := hnx.2.2.1
      have hz := hnx.2.2.2
      have HN := hid (tick_next S l i draw)
      clear hnx
      generalize hT : tick S l i draw = T at *
      obtain ⟨⟨ask, B, N⟩, S'⟩ := T
      have HN : Hid (N = tickN S l i) := HN
      rw [← HN.out] at HIn hB hask
      dsimp only at HIn hask hB hz
      have Hask := hid hask
      have Hz := hid hz
      clear hT HN hask hz
      obtain ⟨m, hm⟩ : ∃ m, m = i % K := ⟨_, rfl⟩
      rw [← hm] at hB
      have HB := hid hB
      clear hB
      have hm1 : (i : Int) % (K : Int) = (m : Int) := by rw [hm, Int.natCast_emod]
      have hm2 : (i : Int).tmod (K : Int) = (m : Int) := by rw [Int.tmod_eq_emod_of_nonneg (by omega)]; exact hm1
      have Hml := hid (show (mem N).length ≤ 8 from Nat.le_trans (mem_len N) (HIn.out.len))
      clear hm
      go_wp2_with fail
      refine Htick.out.mono ?_
      rintro e w5 ⟨v5, vr5, rfl, hPe5, hOf5, hW5, hK5, -⟩
      dsimp only at hPe5 hW5
      have HPe5 := hid hPe5
      have HOf5 := hid hOf5
      have HW5 := hid hW5
      have HK5 := hid (HKe.out.trans hK5)
      have hme := hid (rmembers_any v5 N w5 hPe5 (by have := HIn.out.len; omega))
      obtain ⟨a5, c5, rfl⟩ := hPe5.shape
      clear hPe5 hOf5 hW5 hK5 hdc
      dsimp only
      go_wp2_with fail
      refine hme.out.mono ?_
      rintro e w6 ⟨v6, rfl, hown6, hp6⟩
      obtain ⟨a6, c6, rfl⟩ := own_shape_p hown6
      have hfi := hid (find_any _ N ask w6 (Row.pure HPe5.out hp6))
      have Hp6 := hid hp6
      clear hown6 hp6 hme
      unfold pv at hfi
      generalize hPF : pfind N ask = PF at *
      have HPF := hid hPF
      clear hPF
      generalize hmlen : (mem N).length = ml at *
      clear hmlen
      go_wp2_with fail
      refine hfi.out.mono ?_
      rintro e w7 ⟨rfl, hp7⟩
      have HA := hid (fun (o : Obj) => (show Pure w5 (w7.alloc o) from (Hp6.out.then_ hp7).then_ ((Below.refl _ _).alloc (Nat.le_refl _) _)))
      clear hp7
      have Hrel := hid (fun (o : Obj) => (show ∃ (i' : Nat) (S : WS) (l : List Pr) (vr : Value), i' ≤ D.length ∧ i' ≤ 40 ∧ Value.int .i64 ((i : Int) + 1) = .int .i64 i' ∧ AskI K i' S l ∧ WAt (w7.alloc o) b mb vr S ∧ Peers (w7.alloc o) (.slice a5 N.length c5) l ∧ Off b mb (.slice a5 N.length c5) ∧ Kept (W2 b mb) w4 (w7.alloc o) from
        ⟨i + 1, S', N, vr5, by omega, by omega, by go_num, HIn.out, HW5.out.pure (HA.out _), Row.pure HPe5.out (HA.out _), HOf5.out, HK5.out.trans (Pure.kept (HA.out _))⟩))
      by_cases hm0 : m = 0
      · have hm0' : ((m : Int) == 0) = true := by simp [hm0]
        by_cases h1 : 1 < ml
        · have h1' : (1 : Int) < (ml : Int) := by omega
          have hBt : B = true := by rw [HB.out]; simp [hm0, h1]
          subst hBt
          obtain ⟨hne, p, hp, hps⟩ := Hask.out rfl
          have hne' : (ask == 2) = false := by simpa using hne
          subst hp
          obtain ⟨pi, pn, ps⟩ := p
          have hps' : (ps == 2) = false := by simpa using hps
          simp only [Option.getD_some, Option.isSome_some]
          clear hm0 hne hps
          go_wp2
          go_roundw
          case rel => exact Hrel.out _
          case measure => simp [RowKit.intOf]; omega
        · have h1' : ¬ (1 : Int) < (ml : Int) := by omega
          have hBf : B = false := by rw [HB.out]; simp [h1]
          subst hBf
          have hz0 := Hz.out rfl
          subst hz0
          clear hm0
          generalize PF.getD p0 = p at *
          obtain ⟨pi, pn, ps⟩ := p
          generalize PF.isSome = isb at *
          go_wp2
          go_roundw
          case rel => exact Hrel.out _
          case measure => simp [RowKit.intOf]; omega
      · have hm0' : ((m : Int) == 0) = false := by simpa using hm0
        have hBf : B = false := by rw [HB.out]; simp [hm0]
        subst hBf
        have hz0 := Hz.out rfl
        subst hz0
        clear hm0
        generalize PF.getD p0 = p at *
        obtain ⟨pi, pn, ps⟩ := p
        generalize PF.isSome = isb at *
        go_wp2
        go_roundw
        case rel => exact Hrel.out _
        case measure => simp [RowKit.intOf]; omega
    · have Hend := hid (Hp4.out.w2 HKe.out hbw.1 hbw.2)
      by_cases l1 : i < D.length
      · have l1' : (i : Int) < (D.length : Int) := by omega
        have l2' : ¬ (i : Int) < 40 := by omega
        go_wp2
        go_ret
        exact ⟨rfl, Hend.out⟩
      · have l1' : ¬ (i : Int) < (D.length : Int) := by omega
        go_wp2
        go_ret
        exact ⟨rfl, Hend.out⟩
end Go.Proofs.Ytlamhobkmknnpaa
