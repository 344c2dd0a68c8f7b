import Derived.Test.YthghccccjmbjlaaTallyE
namespace Go.Proofs.Ythghccccjmbjlaa
open Go.RowKit Go.Maps
/-! TallyStays: what is done stays done. -/

theorem and15 (n : Int) : 0 ≤ bits .and .i64 n 15 ∧ bits .and .i64 n 15 ≤ 15 := by
  show 0 ≤ IntKind.i64.wrap ((BitVec.ofInt 64 n &&& BitVec.ofInt 64 15).toNat : Int) ∧ IntKind.i64.wrap ((BitVec.ofInt 64 n &&& BitVec.ofInt 64 15).toNat : Int) ≤ 15
  have hx : (BitVec.ofInt 64 n &&& BitVec.ofInt 64 15).toNat ≤ 15 := by
    rw [BitVec.toNat_and]
    exact Nat.le_trans Nat.and_le_right (by decide)
  rw [IntWalk.i64_in _ (by omega)]
  omega

/-- The tally behind k of the nodes. -/
def TM.at_ (o l : List Int) (m : Int) (k : Nat) : TM := ⟨dd o, m, dd (l.take k)⟩
theorem TM.step (o l : List Int) (m : Int) (k : Nat) (h : k < l.length) : (TM.at_ o l m k).add (l.getD k 0) = TM.at_ o l m (k + 1) := by
  unfold TM.add TM.at_; rw [dd_take l k h]; dsimp only; split <;> rfl

theorem filter_len_le {p q : Int → Bool} (h : ∀ x, p x = true → q x = true) : ∀ l : List Int, (l.filter p).length ≤ (l.filter q).length
  | [] => Nat.le_refl _
  | x :: l => by
    have ih := filter_len_le h l
    rw [List.filter_cons, List.filter_cons]
    by_cases hp : p x = true
    · rw [if_pos hp, if_pos (h x hp)]; simp; omega
    · rw [if_neg hp]; split <;> simp <;> omega
theorem dd_mem_take {l : List Int} {k : Nat} (h : k < l.length) : l.getD k 0 ∈ dd (l.take (k + 1)) := by
  rw [dd_mem, take_succ_get l k h]; simp
theorem dd_mono {l : List Int} {k : Nat} (x : Int) (h : x ∈ dd (l.take k)) : x ∈ dd (l.take (k + 1)) := by
  rw [dd_mem] at *; exact (List.take_prefix_take_left (by omega)).subset h
theorem owned_mono (o l : List Int) (m : Int) (k : Nat) : (TM.at_ o l m k).owned ≤ (TM.at_ o l m (k + 1)).owned := by
  unfold TM.owned TM.missing TM.at_
  have := filter_len_le (p := fun x => !decide (x ∈ dd (l.take (k + 1)))) (q := fun x => !decide (x ∈ dd (l.take k))) (fun x hx => by
    simp only [Bool.not_eq_true', decide_eq_false_iff_not] at *
    exact fun h => hx (dd_mono x h)) (dd o)
  dsimp only
  omega
theorem len_step (l : List Int) (k : Nat) (h : k < l.length) : (dd (l.take (k + 1))).length = if l.getD k 0 ∈ dd (l.take k) then (dd (l.take k)).length else (dd (l.take k)).length + 1 := by
  rw [dd_take l k h]; split <;> simp

theorem filter_split (p : Int → Bool) : ∀ l : List Int, (l.filter p).length + (l.filter fun x => !p x).length = l.length
  | [] => rfl
  | x :: l => by
    have ih := filter_split p l
    rw [List.filter_cons, List.filter_cons]
    cases p x <;> simp <;> omega
theorem owned_others {c : TM} (h1 : c.owners.Nodup) (h2 : c.yes.Nodup) : c.owned + (c.others.length : Int) = (c.yes.length : Int) := by
  unfold TM.owned TM.missing TM.others
  have a := filter_split (fun x => decide (x ∈ c.yes)) c.owners
  have b := filter_split (fun x => decide (x ∈ c.owners)) c.yes
  have e1 := ((show (srt c.yes).Perm c.yes from List.mergeSort_perm _ _).filter (fun x => !decide (x ∈ c.owners))).length_eq
  have e2 : (c.owners.filter fun x => decide (x ∈ c.yes)).length = (c.yes.filter fun x => decide (x ∈ c.owners)).length := by
    refine List.Perm.length_eq ((List.perm_ext_iff_of_nodup (h1.filter _) (h2.filter _)).2 fun x => ?_)
    simp only [List.mem_filter, decide_eq_true_eq]
    exact And.comm
  omega
theorem dd_nodup (l : List Int) : (dd l).Nodup := ddo_nodup l [] (by simp)
theorem owned_ge (c : TM) : 0 ≤ c.owned ∧ c.owned ≤ c.owners.length := by have := c.missing_le; unfold TM.owned; omega

/-- The tally stands in the world, and only its own two blocks have changed. -/
structure TS (b bm : Nat) (vo : Value) (w0 : World) (c : TM) (w : World) : Prop where
  at_ : TallyAt w b bm vo c
  kept : Kept (fun k => k = b ∨ k = bm) w0 w
section
variable {b bm : Nat} {vo : Value} {w0 w : World} {c : TM}
theorem done_s (h : TS b bm vo w0 c w) (v : Bool) (hv : decide (c.need ≤ (c.yes.length : Int)) = v) :
    Calls Try.prog 21 #[.pointer (some ⟨b, 0, none⟩)] w fun e w' => e = .returned (.bool v) ∧ TS b bm vo w0 c w' := by
  subst hv; exact (done_any b bm vo c w h.at_).mono fun _ _ ⟨h1, h2⟩ => ⟨h1, h.at_.pure h2, h.kept.trans (Pure.kept h2)⟩
theorem most_s (h : TS b bm vo w0 c w) (v : Bool) (hv : decide ((c.owners.length : Int) / 2 + 1 ≤ c.owned) = v) :
    Calls Try.prog 22 #[.pointer (some ⟨b, 0, none⟩)] w fun e w' => e = .returned (.bool v) ∧ TS b bm vo w0 c w' := by
  subst hv; exact (most_any b bm vo c w h.at_).mono fun _ _ ⟨h1, h2⟩ => ⟨h1, h.at_.pure h2, h.kept.trans (Pure.kept h2)⟩
theorem count_s (h : TS b bm vo w0 c w) (n : Nat) (hn : c.yes.length = n) :
    Calls Try.prog 18 #[.pointer (some ⟨b, 0, none⟩)] w fun e w' => e = .returned (.int .i64 n) ∧ TS b bm vo w0 c w' := by
  subst hn; exact (count_any b bm vo c w h.at_).mono fun _ _ ⟨h1, h2⟩ => ⟨h1, h2 ▸ h⟩
theorem owned_s (h : TS b bm vo w0 c w) :
    Calls Try.prog 19 #[.pointer (some ⟨b, 0, none⟩)] w fun e w' => e = .returned (.int .i64 c.owned) ∧ TS b bm vo w0 c w' :=
  (owned_any b bm vo c w h.at_).mono fun _ _ ⟨h1, h2⟩ => ⟨h1, h.at_.pure h2, h.kept.trans (Pure.kept h2)⟩
theorem others_s (h : TS b bm vo w0 c w) :
    Calls Try.prog 15 #[.pointer (some ⟨b, 0, none⟩)] w fun e w' => ∃ v', e = .returned v' ∧ Ints w' v' c.others ∧ TS b bm vo w0 c w' :=
  (others_any b bm vo c w h.at_).mono fun _ _ ⟨v', h1, h2, h3⟩ => ⟨v', h1, Row.of_own h2, h.at_.pure h3, h.kept.trans (Pure.kept h3)⟩
theorem yes_s (h : TS b bm vo w0 c w) (node : Int) (hwf : (Lit.int .i64 node).wf = true) (hl : c.yes.length < 1000) (v : Bool) (hv : decide (node ∉ c.yes) = v) (d : TM) (hd : c.add node = d) :
    Calls Try.prog 24 #[.pointer (some ⟨b, 0, none⟩), .int .i64 node] w fun e w' => e = .returned (.bool v) ∧ TS b bm vo w0 d w' :=
  (yes_at b bm vo c d node w h.at_ hwf hl v hv hd).mono fun _ _ ⟨h1, h2, h3⟩ => ⟨h1, h2, h.kept.trans h3⟩
theorem TM.add_same {c : TM} {node : Int} (h : node ∈ c.yes) : c.add node = c := by unfold TM.add; rw [if_pos h]
end

set_option maxHeartbeats 2000000 in
theorem stays_walk (v1 v2 : Value) (o l : List Int) (need : Int) (w : World) (h1 : Ints w v1 o) (h2 : Ints w v2 l) (w1 : AllWf o) (w2 : AllWf l) :
    Calls Try.prog 5 #[v1, .int .i64 need, v2] w fun e w' => e = .returned (.bool true) ∧ Pure w w' := by
  have Hw := hid (awake_any w)
  obtain ⟨a1, c1, rfl⟩ := h1.shape
  obtain ⟨a2, c2, rfl⟩ := h2.shape
  have H1 := hid h1
  have H2 := hid h2
  clear h1 h2
  go_enter Try.func5, Try.ntmps5
  go_wp2_with fail
  refine Hw.out.mono ?_
  rintro e w3 ⟨rfl, hp3⟩
  go_wp2_with fail
  refine (few_any _ l w3 (H2.out.pure hp3)).mono ?_
  rintro e w' ⟨v2, rfl, hi2, hb2, rfl⟩
  obtain ⟨a2', c2', rfl⟩ := hi2.shape
  go_wp2_with fail
  refine (few_any _ o w3 (H1.out.pure hp3)).mono ?_
  rintro e w' ⟨v1, rfl, hi1, hb1, rfl⟩
  obtain ⟨a1', c1', rfl⟩ := hi1.shape
  go_wp2_with fail
  obtain ⟨m, hm⟩ : ∃ m, m = bits .and .i64 need 15 := ⟨_, rfl⟩
  have hm2 := and15 need
  rw [← hm] at hm2 ⊢
  refine (new_ok _ (few o) m w3 hi1 (by have := few_le o; omega) (few_wf w1) hm2.1).mono ?_
  rintro e w4 ⟨b, bm, vo, rfl, hA, hb, hbm, hvo, hp⟩
  have HL := hid (hi2.pure hp)
  have hwl := few_wf w2
  have hlen := few_le l
  have HP := hid (hp3.then_ hp)
  have hsz : w.heap.size ≤ w3.heap.size := hp3.size
  have hlt2 := hid (fun k hk => Nat.lt_of_lt_of_le (Row.lt hi2 k hk) hb)
  have hlt3 := hid (fun k hk => Nat.lt_of_lt_of_le (Row.lt hi2 k hk) hbm)
  clear hi1 hi2 hb1 hb2 hp hp3 hm
  generalize few l = L at *
  generalize few o = O at *
  go_wp2_with fail
  go_loopw [10, 11] (fun n i wr => ∃ k : Nat, k ≤ L.length ∧ i = .int .i64 k ∧ n = .int .i64 (dd (L.take k)).length ∧ TS b bm vo w4 (TM.at_ O L m k) wr) (fun _ i _ => L.length - (RowKit.intOf i).toNat)
  case atStart => exact ⟨0, Nat.zero_le _, rfl, rfl, hA, Kept.refl _ _⟩
  case round =>
    obtain ⟨k, hk, rfl, rfl, hT⟩ := hrel
    by_cases hlt : k < L.length
    · have hx := hwl.get hlt
      have hLc : ∀ c W, TS b bm vo w4 c W → ∃ bl off, a2' = some ⟨bl, off, none⟩ ∧ W.cell? ⟨bl, off + k, none⟩ = some (.int .i64 (L.getD k 0)) := fun c W hW => by
        obtain ⟨_, _, _, hc⟩ := Ints.cell (Row.kept HL.out hW.kept (fun k hk (h : k = b ∨ k = bm) => by rcases h with h | h; exact absurd (hlt2.out _ hk) (by omega); exact absurd (hlt3.out _ hk) (by omega)))
        rcases hc with ⟨h, _⟩ | ⟨bl, off, h, _, hc⟩
        · rw [h] at hlt; exact absurd hlt (Nat.not_lt_zero _)
        · exact ⟨bl, off, h, hc k hlt⟩
      have hy := hid (dd_mem_take hlt)
      have hstep := hid (TM.step O L m k hlt)
      have hlen1 := len_step L k hlt
      have hdl : (dd (L.take k)).length ≤ k := Nat.le_trans (dd_len _) (by rw [List.length_take]; omega)
      have hom := owned_mono O L m k
      have hown : (TM.at_ O L m (k+1)).owners.length = (TM.at_ O L m k).owners.length := rfl
      have hY : (TM.at_ O L m (k+1)).yes = dd (L.take (k+1)) := rfl
      have hY0 : (TM.at_ O L m k).yes = dd (L.take k) := rfl
      have hN : (TM.at_ O L m (k+1)).need = m := rfl
      have hN0 : (TM.at_ O L m k).need = m := rfl
      obtain ⟨D, hD⟩ : ∃ D, D = decide ((TM.at_ O L m k).need ≤ ((TM.at_ O L m k).yes.length : Int)) := ⟨_, rfl⟩
      obtain ⟨M, hM⟩ : ∃ M, M = decide (((TM.at_ O L m k).owners.length : Int) / 2 + 1 ≤ (TM.at_ O L m k).owned) := ⟨_, rfl⟩
      obtain ⟨V, hV⟩ : ∃ V, V = decide (L.getD k 0 ∉ (TM.at_ O L m k).yes) := ⟨_, rfl⟩
      have hD2 := hid (fun h : D = true => show decide ((TM.at_ O L m (k+1)).need ≤ ((TM.at_ O L m (k+1)).yes.length : Int)) = true by
        rw [hD, decide_eq_true_eq, hN0, hY0] at h; rw [decide_eq_true_eq, hN, hY, hlen1]; split <;> omega)
      have hM2 := hid (fun h : M = true => show decide (((TM.at_ O L m (k+1)).owners.length : Int) / 2 + 1 ≤ (TM.at_ O L m (k+1)).owned) = true by
        rw [hM, decide_eq_true_eq] at h; rw [decide_eq_true_eq, hown]; omega)
      have hlen2 : ∃ n1 : Nat, n1 = (dd (L.take (k+1))).length ∧ n1 = if V = true then (dd (L.take k)).length + 1 else (dd (L.take k)).length := ⟨_, rfl, by
        rw [hlen1, hV, hY0]; by_cases hh : L.getD k 0 ∈ dd (L.take k) <;> simp only [hh, if_true, if_false, not_true_eq_false, not_false_eq_true, decide_true, decide_false, Bool.false_eq_true]⟩
      obtain ⟨n1, hn1, hn2⟩ := hlen2
      have Hn1 := hid hn1
      have hD' := hid hD.symm
      have hM' := hid hM.symm
      have hV' := hid hV.symm
      have hln := hid (show (TM.at_ O L m k).yes.length < 1000 by rw [hY0]; omega)
      have hln1 := hid (show (TM.at_ O L m (k+1)).yes.length < 1000 by rw [hY, ← hn1]; split at hn2 <;> omega)
      have hlt' : (k : Int) < (L.length : Int) := by omega
      generalize (dd (L.take k)).length = n at *
      clear hlen1 hn1 hY hY0 hN hN0 hom hown hD hM hV
      generalize L.getD k 0 = x at *
      go_wp2_with fail
      refine (done_s hT D hD'.out).mono ?_
      rintro e w5 ⟨rfl, hT5⟩
      go_wp2_with fail
      refine (most_s hT5 M hM'.out).mono ?_
      rintro e w6 ⟨rfl, hT6⟩
      obtain ⟨bl, off, rfl, hc⟩ := hLc _ _ hT6
      go_wp2_with fail
      refine (yes_s hT6 x hx hln.out V hV'.out _ hstep.out).mono ?_
      rintro e w7 ⟨rfl, hT7⟩
      obtain ⟨_, _, ee, hc7⟩ := hLc _ _ hT7
      cases ee
      have hy' : x ∈ (TM.at_ O L m (k+1)).yes := hy.out
      have hv1 := hid (show decide (x ∉ (TM.at_ O L m (k+1)).yes) = false by simpa using hy')
      have hsame := hid (TM.add_same (c := TM.at_ O L m (k+1)) (node := x) hy')
      clear hy' hLc hc
      have hone : n1 = n ∨ n1 = n + 1 := by split at hn2 <;> omega
      cases V <;> cases D <;> cases M <;>
      · simp only [if_true, if_false, Bool.false_eq_true] at hn2
        subst hn2
        go_wp2_with (first
          | (go_at_call 24; refine (yes_s (c := TM.at_ O L m (k+1)) (by assumption) x hx hln1.out false hv1.out _ hsame.out).mono ?_; rintro e w8 ⟨rfl, hT8⟩)
          | (go_at_call 21; refine (done_s (c := TM.at_ O L m (k+1)) (by assumption) true (hD2.out (by simp))).mono ?_; rintro e w9 ⟨rfl, hT9⟩)
          | (go_at_call 22; refine (most_s (c := TM.at_ O L m (k+1)) (by assumption) true (hM2.out (by simp))).mono ?_; rintro e w10 ⟨rfl, hT10⟩)
          | (go_at_call 18; refine (count_s (c := TM.at_ O L m (k+1)) (by assumption) _ Hn1.out.symm).mono ?_; rintro e w11 ⟨rfl, hT11⟩))
        go_roundw
        case rel => exact ⟨k + 1, by omega, by go_num, by rw [← Hn1.out] <;> go_num, by assumption⟩
        case measure => simp [RowKit.intOf]; omega
    · have e : k = L.length := by omega
      subst e
      have hl := dd_len L
      have hoo := owned_others (c := TM.at_ O L m L.length) (dd_nodup _) (dd_nodup _)
      have hge := owned_ge (TM.at_ O L m L.length)
      have hoy : (TM.at_ O L m L.length).yes = dd (L.take L.length) := rfl
      have hoow : (TM.at_ O L m L.length).owners = dd O := rfl
      have hdo := dd_len O
      rw [hoy] at hoo
      rw [hoow] at hge
      rw [List.take_length] at hoo ⊢
      have hq : ∃ q, q = (TM.at_ O L m L.length).others.length := ⟨_, rfl⟩
      obtain ⟨q, hq⟩ := hq
      rw [← hq] at hoo
      have Hq := hid hq
      have hb : (((TM.at_ O L m L.length).owned + (q : Int)) == ((dd L).length : Int)) = true := by simpa using hoo
      have ho := owned_s hT
      have Ho := hid ho
      clear ho hq hoy hoow
      generalize (TM.at_ O L m L.length).owned = y at *
      generalize (dd L).length = n at *
      go_wp2_with fail
      refine Ho.out.mono ?_
      rintro e w5 ⟨rfl, hT5⟩
      go_wp2_with fail
      refine (others_s hT5).mono ?_
      rintro e w6 ⟨v6, rfl, hi6, hT6⟩
      obtain ⟨a6, c6, rfl⟩ := hi6.shape
      rw [← Hq.out] at hi6 ⊢
      have Hk := hid hT6.kept
      clear hi6 hT6 hT5 hT
      go_wp2
      go_ret
      refine ⟨rfl, HP.out.kept_then Hk.out (fun k hk => ?_)⟩
      have hk : k = b ∨ k = bm := hk
      omega
end Go.Proofs.Ythghccccjmbjlaa
