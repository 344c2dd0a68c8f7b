import Derived.Test.YthghccccjmbjlaaCounts
namespace Go.Proofs.Ythghccccjmbjlaa
open Go.RowKit Go.Maps
/-! TallyMeets. -/

/-- k numbers from b on. -/
def from_ (b : Int) (k : Nat) : List Int := (List.range k).map fun (i : Nat) => b + (i : Int)
theorem from_len (b : Int) (k : Nat) : (from_ b k).length = k := by simp [from_]
theorem from_succ (b : Int) (k : Nat) : from_ b (k + 1) = from_ b k ++ [b + (k : Int)] := by simp [from_, List.range_succ]
theorem from_get (b : Int) (k i : Nat) (h : i < k) : (from_ b k).getD i 0 = b + (i : Int) := by simp [from_, List.getD, h]
theorem from_mem {b : Int} {k : Nat} {x : Int} : x ∈ from_ b k ↔ ∃ i : Nat, i < k ∧ x = b + (i : Int) := by
  simp only [from_, List.mem_map, List.mem_range]
  constructor
  · rintro ⟨i, h, rfl⟩; exact ⟨i, h, rfl⟩
  · rintro ⟨i, h, rfl⟩; exact ⟨i, h, rfl⟩
theorem from_wf (b : Int) (k : Nat) (h : -1000000 ≤ b) (h1 : b ≤ 1000000) (h2 : k ≤ 1000000) : AllWf (from_ b k) := by
  intro x hx
  obtain ⟨i, hi, rfl⟩ := from_mem.1 hx
  exact wf_i64 _ (by omega)
theorem from_nodup (b : Int) (k : Nat) : (from_ b k).Nodup := by
  unfold from_
  rw [List.Nodup, List.pairwise_map]
  exact List.nodup_range.imp (fun {x y} h e => h (by omega))
theorem nodup_dd : ∀ (l acc : List Int), (acc ++ l).Nodup → ddo acc l = acc ++ l
  | [], acc, _ => by simp [ddo]
  | x :: l, acc, h => by
    have hx : x ∉ acc := fun hm => by
      have := (List.nodup_append.1 h).2.2 x hm x (by simp)
      exact this rfl
    unfold ddo
    rw [if_neg hx, nodup_dd l (acc ++ [x]) (by simpa using h)]
    simp
theorem from_dd (b : Int) (k : Nat) : dd (from_ b k) = from_ b k := by
  have := nodup_dd (from_ b k) [] (by simpa using from_nodup b k)
  simpa [dd] using this

theorem apart_len {p q : Int → Bool} : ∀ l : List Int, (∀ x ∈ l, p x = true → q x = true → False) → (l.filter p).length + (l.filter q).length ≤ l.length
  | [], _ => Nat.le_refl _
  | x :: l, h => by
    have ih := apart_len l (fun y hy => h y (List.mem_cons_of_mem _ hy))
    have hx := h x (by simp)
    rw [List.filter_cons, List.filter_cons]
    cases hp : p x <;> cases hq : q x <;> simp_all <;> omega
theorem owned_count (c : TM) : c.owned = ((c.owners.filter fun x => decide (x ∈ c.yes)).length : Int) := by
  unfold TM.owned TM.missing
  have := filter_split (fun x => decide (x ∈ c.yes)) c.owners
  omega

/-- Who has done it of the first m owners. -/
structure Half (K m : Nat) (A : Nat → Bool) (c : TM) : Prop where
  owners : c.owners = from_ 5 K
  mem : ∀ i, i < K → (5 + (i : Int) ∈ c.yes ↔ i < m ∧ A i = true)
  len : c.yes.length ≤ m + 1
theorem Half.add {K m : Nat} {A : Nat → Bool} {c : TM} (h : Half K m A c) (ha : A m = true) : Half K (m + 1) A (c.add (5 + (m : Int))) := by
  unfold TM.add
  split
  · rename_i hm
    refine ⟨h.owners, fun i hi => ?_, by have := h.len; omega⟩
    rw [h.mem i hi]
    constructor
    · rintro ⟨h1, h2⟩; exact ⟨by omega, h2⟩
    · rintro ⟨h1, h2⟩
      by_cases e : i = m
      · subst e; exact (h.mem i hi).1 hm
      · exact ⟨by omega, h2⟩
  · refine ⟨h.owners, fun i hi => ?_, by have := h.len; simp; omega⟩
    simp only [List.mem_append, List.mem_singleton]
    rw [h.mem i hi]
    constructor
    · rintro (⟨h1, h2⟩ | h1)
      · exact ⟨by omega, h2⟩
      · obtain rfl : i = m := by omega
        exact ⟨by omega, ha⟩
    · rintro ⟨h1, h2⟩
      by_cases e : i = m
      · right; omega
      · exact .inl ⟨by omega, h2⟩
theorem Half.skip {K m : Nat} {A : Nat → Bool} {c : TM} (h : Half K m A c) (ha : A m = false) : Half K (m + 1) A c := by
  refine ⟨h.owners, fun i hi => ?_, by have := h.len; omega⟩
  rw [h.mem i hi]
  constructor
  · rintro ⟨h1, h2⟩; exact ⟨by omega, h2⟩
  · rintro ⟨h1, h2⟩
    have : i ≠ m := fun e => by subst e; rw [ha] at h2; cases h2
    exact ⟨by omega, h2⟩
theorem Half.one {K m : Nat} {A : Nat → Bool} {c : TM} (h : Half K m A c) : (c.add 1).owners = from_ 5 K ∧ (∀ i, i < K → (5 + (i : Int) ∈ (c.add 1).yes ↔ i < m ∧ A i = true)) := by
  unfold TM.add
  split
  · exact ⟨h.owners, h.mem⟩
  · refine ⟨h.owners, fun i hi => ?_⟩
    rw [← h.mem i hi]
    simp only [List.mem_append, List.mem_singleton]
    constructor
    · rintro (h | h)
      · exact h
      · omega
    · exact .inl
def com (A B : Nat → Bool) : Nat → Bool
  | 0 => false
  | m + 1 => com A B m || A m && B m
theorem com_some {A B : Nat → Bool} : ∀ {m i : Nat}, i < m → A i = true → B i = true → com A B m = true
  | 0, _, h, _, _ => by omega
  | m + 1, i, h, ha, hb => by
    unfold com
    by_cases e : i = m
    · subst e; simp [ha, hb]
    · rw [com_some (by omega) ha hb]; rfl
theorem meets {K : Nat} {A B : Nat → Bool} {c d : TM} (hc : Half K K A c) (hd : Half K K B d)
    (h1 : (((c.add 1).owners.length : Int)) / 2 + 1 ≤ (c.add 1).owned) (h2 : (((d.add 1).owners.length : Int)) / 2 + 1 ≤ (d.add 1).owned) : com A B K = true := by
  obtain ⟨o1, m1⟩ := hc.one
  obtain ⟨o2, m2⟩ := hd.one
  apply Classical.byContradiction
  intro hn
  rw [owned_count, o1, from_len] at h1
  rw [owned_count, o2, from_len] at h2
  have := apart_len (p := fun x => decide (x ∈ (c.add 1).yes)) (q := fun x => decide (x ∈ (d.add 1).yes)) (from_ 5 K) (fun x hx hp hq => by
    obtain ⟨i, hi, rfl⟩ := from_mem.1 hx
    rw [decide_eq_true_eq] at hp hq
    exact hn (com_some hi ((m1 i hi).1 hp).2 ((m2 i hi).1 hq).2))
  rw [from_len] at this
  omega

/-- Two tallies in one world. -/
structure Two (ba bma : Nat) (voa : Value) (bb bmb : Nat) (vob : Value) (w0 : World) (c d : TM) (w : World) : Prop where
  l : TallyAt w ba bma voa c
  r : TallyAt w bb bmb vob d
  kept : Kept (fun k => k = ba ∨ k = bma ∨ k = bb ∨ k = bmb) w0 w
structure Sep (ba bma : Nat) (voa : Value) (bb bmb : Nat) (vob : Value) : Prop where
  a1 : ba < bb
  a2 : ba < bmb
  a3 : bma < bb
  a4 : bma < bmb
  a5 : ∀ k, voa.rb = some k → k < bb ∧ k < bmb
  a6 : ∀ k, vob.rb = some k → ba < k ∧ bma < k
section
variable {ba bma : Nat} {voa : Value} {bb bmb : Nat} {vob : Value} {w0 w : World} {c d : TM}
theorem Two.yes_l (s : Sep ba bma voa bb bmb vob) (h : Two ba bma voa bb bmb vob w0 c d w) (node : Int) (hwf : (Lit.int .i64 node).wf = true) (hl : c.yes.length < 1000) :
    Calls Try.prog 24 #[.pointer (some ⟨ba, 0, none⟩), .int .i64 node] w fun e w' => e = .returned (.bool (decide (node ∉ c.yes))) ∧ Two ba bma voa bb bmb vob w0 (c.add node) d w' :=
  (yes_any ba bma voa c node w h.l hwf hl).mono fun _ _ ⟨h1, h2, h3⟩ => ⟨h1, h2, h.r.kept h3 (by have := s.a1; have := s.a3; omega) (by have := s.a2; have := s.a4; omega) (fun k hk => by have := s.a6 k hk; omega), h.kept.trans (h3.mono (fun _ _ h => by omega))⟩
theorem Two.yes_r (s : Sep ba bma voa bb bmb vob) (h : Two ba bma voa bb bmb vob w0 c d w) (node : Int) (hwf : (Lit.int .i64 node).wf = true) (hl : d.yes.length < 1000) :
    Calls Try.prog 24 #[.pointer (some ⟨bb, 0, none⟩), .int .i64 node] w fun e w' => e = .returned (.bool (decide (node ∉ d.yes))) ∧ Two ba bma voa bb bmb vob w0 c (d.add node) w' :=
  (yes_any bb bmb vob d node w h.r hwf hl).mono fun _ _ ⟨h1, h2, h3⟩ => ⟨h1, h.l.kept h3 (by have := s.a1; have := s.a2; omega) (by have := s.a3; have := s.a4; omega) (fun k hk => by have := s.a5 k hk; omega), h2, h.kept.trans (h3.mono (fun _ _ h => by omega))⟩
theorem Two.pure {w' : World} (h : Two ba bma voa bb bmb vob w0 c d w) (hp : Pure w w') : Two ba bma voa bb bmb vob w0 c d w' := ⟨h.l.pure hp, h.r.pure hp, h.kept.trans (Pure.kept hp)⟩
theorem Two.most_l (h : Two ba bma voa bb bmb vob w0 c d w) (v : Bool) (hv : decide ((c.owners.length : Int) / 2 + 1 ≤ c.owned) = v) :
    Calls Try.prog 22 #[.pointer (some ⟨ba, 0, none⟩)] w fun e w' => e = .returned (.bool v) ∧ Two ba bma voa bb bmb vob w0 c d w' := by
  subst hv; exact (most_any ba bma voa c w h.l).mono fun _ _ ⟨h1, h2⟩ => ⟨h1, h.pure h2⟩
theorem Two.most_r (h : Two ba bma voa bb bmb vob w0 c d w) (v : Bool) (hv : decide ((d.owners.length : Int) / 2 + 1 ≤ d.owned) = v) :
    Calls Try.prog 22 #[.pointer (some ⟨bb, 0, none⟩)] w fun e w' => e = .returned (.bool v) ∧ Two ba bma voa bb bmb vob w0 c d w' := by
  subst hv; exact (most_any bb bmb vob d w h.r).mono fun _ _ ⟨h1, h2⟩ => ⟨h1, h.pure h2⟩
end

set_option maxHeartbeats 1000000 in
theorem meets_walk (n a b : Int) (w : World) :
    Calls Try.prog 4 #[.int .i64 n, .int .i64 a, .int .i64 b] w fun e w' => e = .returned (.bool true) ∧ Pure w w' := by
  have ha := hid (awake_any w)
  have r1 : -12 < n.tmod 12 := by have := Int.lt_tmod_of_pos n (show (0 : Int) < 12 by decide); omega
  have r2 : n.tmod 12 < 12 := Int.tmod_lt_of_pos n (by decide)
  obtain ⟨K, hK⟩ : ∃ K : Nat, 1 + n.tmod 12 % 12 = (K : Int) := ⟨(1 + n.tmod 12 % 12).toNat, by omega⟩
  have hK1 : 1 ≤ K := by omega
  have hK2 : K ≤ 12 := by omega
  go_enter Try.func4, Try.ntmps4
  go_wp2_with fail
  refine ha.out.mono ?_
  rintro e w1 ⟨rfl, hp1⟩
  go_wp2_with fail
  rw [show (n.tmod 12 + 12) % 12 = n.tmod 12 % 12 by omega]
  clear hK r1 r2
  obtain ⟨i0, hi, hz0, hz1, hz2⟩ := info_parts infoInt
  go_loopw [9, 10] (fun v i wr => ∃ j : Nat, j ≤ K ∧ i = .int .i64 j ∧ wr.ownsRow w.heap.size 3 1 v (from_ 5 j).length ((from_ 5 j).map (Value.int .i64)) ∧ Pure w wr) (fun _ i _ => K - (RowKit.intOf i).toNat)
  case atStart => exact ⟨0, Nat.zero_le _, rfl, World.ownsRow_nil _ _ _ _, hp1⟩
  case round =>
    obtain ⟨j, hj, rfl, hown, hp⟩ := hrel
    by_cases hlt : j < K
    · have hfl : (from_ 5 j).length ≤ 12 := by rw [from_len]; omega
      go_wp2_with (at_builtin; refine wpList_append_own _ rfl _ _ 22 rfl w.heap.size 3 i0 (.int .i64 0) 1 8 Try.underlying22 hi hz0 hz1 hz2 rfl (by decide) _ _ _ rfl (hown.alloc _) ⟨wr.heap.size, 0, none⟩ 1 1 [.int .i64 (5 + (j : Int))] rfl rfl hnews_one ?c2 ?c3 ?c4 ?c5 ?_)
      case c2 => intro u hu; simp at hu; subst hu; rfl
      case c3 => unfold maxLen; omega
      case c4 => omega
      case c5 => have := hp.size; simp; omega
      intro v2 w2 hown2 hg2 _
      go_wp2
      go_roundw
      case rel => exact ⟨j + 1, by omega, by go_num, by rw [from_succ]; exact ownsRow_snoc hown2, (hp.alloc hp.size _).grown hg2 (by have := hp.size; simp; omega) (fun k hk => (hown.lt k hk).1)⟩
      case measure => simp [RowKit.intOf]; omega
    · obtain rfl : j = K := by omega
      obtain ⟨wo, rfl⟩ : ∃ wo : World, wo = wr := ⟨_, rfl⟩
      have hwf := from_wf 5 j (by omega) (by omega) (by omega)
      obtain ⟨a2, cap2, rfl⟩ := (Row.of_own hown).shape
      have hI : Ints wo (.slice a2 j cap2) (from_ 5 j) := by
        have h := Row.of_own hown
        rw [from_len] at h
        unfold Ints
        rw [from_len]; exact h
      have hnew := hid (fun (W : World) (hW : Pure wo W) => new_ok _ (from_ 5 j) 1 W (hI.pure hW) (by rw [from_len]; omega) hwf (by omega))
      simp only [from_dd] at hnew
      rw [from_len]
      have HI := hid hI
      have Hp := hid hp
      clear hI hown hp
      go_wp2_with fail
      refine (hnew.out _ (Below.refl _ _)).mono ?_
      rintro e w2 ⟨ba, bma, voa, rfl, hA, hba, hbma, hvoa, hp2⟩
      go_wp2_with fail
      refine (hnew.out _ hp2).mono ?_
      rintro e w3 ⟨bb, bmb, vob, rfl, hB, hbb, hbmb, hvob, hp3⟩
      have hA3 : TallyAt w3 ba bma voa ⟨from_ 5 j, 1, []⟩ := hA.pure hp3
      have hI3 : Ints w3 (.slice a2 j cap2) (from_ 5 j) := (HI.out.pure hp2).pure hp3
      have hpw3 : Pure w w3 := (Hp.out.then_ hp2).then_ hp3
      have hba3 : ba < w2.heap.size := lt_of_block hA.blk
      have hbma3 : bma < w2.heap.size := hA.map.lt
      have hvoa3 : ∀ k, voa.rb = some k → k < w2.heap.size := Row.lt hA.own
      have hown2 : ∀ k, (Value.slice a2 j cap2).rb = some k → k < wo.heap.size := Row.lt HI.out
      have hsz2 := hp2.size
      have hsz3 := hp3.size
      have hszw : w.heap.size ≤ wo.heap.size := Hp.out.size
      have S := hid (show Sep ba bma voa bb bmb vob from ⟨by omega, by omega, by omega, by omega, fun k hk => by have := hvoa3 k hk; omega, fun k hk => by have := hvob k hk; omega⟩)
      have HA := hid hA3
      have HB := hid hB
      have HI3 := hid hI3
      have HPW := hid hpw3
      clear hA hA3 hB hI3 hpw3 hp2 hp3
      obtain ⟨A, hA0⟩ : ∃ A : Nat → Bool, ∀ i : Nat, (bits .and .i64 (a / 2 ^ i) 1 == 1) = A i := ⟨fun i => (bits .and .i64 (a / 2 ^ i) 1 == 1), fun _ => rfl⟩
      obtain ⟨B, hB0⟩ : ∃ B : Nat → Bool, ∀ i : Nat, (bits .and .i64 (b / 2 ^ i) 1 == 1) = B i := ⟨fun i => (bits .and .i64 (b / 2 ^ i) 1 == 1), fun _ => rfl⟩
      have hA := hid hA0
      have hB := hid hB0
      clear hA0 hB0 hnew
      go_wp2_with fail
      go_loopw [13, 14] (fun cm i wr => ∃ (m : Nat) (c d : TM), m ≤ j ∧ i = .int .i64 m ∧ cm = .bool (com A B m) ∧ Half j m A c ∧ Half j m B d ∧ Two ba bma voa bb bmb vob w3 c d wr) (fun _ i _ => j - (RowKit.intOf i).toNat)
      case atStart => exact ⟨0, _, _, Nat.zero_le _, rfl, rfl, ⟨rfl, fun i hi => by simp, by simp⟩, ⟨rfl, fun i hi => by simp, by simp⟩, HA.out, HB.out, Kept.refl _ _⟩
      case round =>
        obtain ⟨m, c, d, hm, rfl, rfl, hc, hd, hT⟩ := hrel
        by_cases hlt : m < j
        · have hx := hA.out m
          have hy := hB.out m
          have hwx : (Lit.int .i64 (5 + (m : Int))).wf = true := wf_i64 _ (by omega)
          have hlc := hid (show c.yes.length < 1000 by have := hc.len; omega)
          have hld := hid (show d.yes.length < 1000 by have := hd.len; omega)
          have hcell := hid (fun (c d : TM) (W : World) (hT : Two ba bma voa bb bmb vob w3 c d W) => ints_get (HI3.out.kept hT.kept (fun k hk h => by have := hown2 k hk; omega)) (show m < (from_ 5 j).length by rw [from_len]; exact hlt))
          simp only [from_get 5 j m hlt] at hcell
          obtain ⟨ob, off, rfl, ho⟩ := hcell.out _ _ _ hT
          have hCs := hid (show com A B (m + 1) = (com A B m || A m && B m) from rfl)
          have hlt' : (m : Int) < (j : Int) := by omega
          have hsc := hid (fun h => hc.skip (m := m) h)
          have hac := hid (fun h => hc.add (m := m) h)
          have hsd := hid (fun h => hd.skip (m := m) h)
          have had := hid (fun h => hd.add (m := m) h)
          clear hc hd
          generalize com A B m = C at *
          cases hAm : A m with
          | false =>
            rw [hAm] at hx hCs
            have Hc := hid (hsc.out hAm)
            cases hBm : B m with
            | false =>
              rw [hBm] at hy hCs
              have Hd := hid (hsd.out hBm)
              clear hAm hBm hsc hac hsd had
              cases C <;>
              · go_wp2_with fail
                go_roundw
                case rel => exact ⟨m + 1, c, d, by omega, by go_num, by rw [hCs.out]; rfl, Hc.out, Hd.out, hT⟩
                case measure => simp [RowKit.intOf]; omega
            | true =>
              rw [hBm] at hy hCs
              have Hd := hid (had.out hBm)
              clear hAm hBm hsc hac hsd had
              go_wp2_with fail
              refine (hT.yes_r S.out _ hwx hld.out).mono ?_
              rintro e w5 ⟨rfl, hT5⟩
              cases C <;>
              · go_wp2_with fail
                go_roundw
                case rel => exact ⟨m + 1, _, _, by omega, by go_num, by rw [hCs.out]; rfl, Hc.out, Hd.out, hT5⟩
                case measure => simp [RowKit.intOf]; omega
          | true =>
            rw [hAm] at hx hCs
            have Hc := hid (hac.out hAm)
            cases hBm : B m with
            | false =>
              rw [hBm] at hy hCs
              have Hd := hid (hsd.out hBm)
              clear hAm hBm hsc hac hsd had
              go_wp2_with fail
              refine (hT.yes_l S.out _ hwx hlc.out).mono ?_
              rintro e w5 ⟨rfl, hT5⟩
              cases C <;>
              · go_wp2_with fail
                go_roundw
                case rel => exact ⟨m + 1, _, _, by omega, by go_num, by rw [hCs.out]; rfl, Hc.out, Hd.out, hT5⟩
                case measure => simp [RowKit.intOf]; omega
            | true =>
              rw [hBm] at hy hCs
              have Hd := hid (had.out hBm)
              clear hAm hBm hsc hac hsd had
              go_wp2_with fail
              refine (hT.yes_l S.out _ hwx hlc.out).mono ?_
              rintro e w5 ⟨rfl, hT5⟩
              obtain ⟨_, _, ee, ho5⟩ := hcell.out _ _ _ hT5
              cases ee
              go_wp2_with fail
              refine (hT5.yes_r S.out _ hwx hld.out).mono ?_
              rintro e w6 ⟨rfl, hT6⟩
              cases C <;>
              · go_wp2_with fail
                go_roundw
                case rel => exact ⟨m + 1, _, _, by omega, by go_num, by rw [hCs.out]; rfl, Hc.out, Hd.out, hT6⟩
                case measure => simp [RowKit.intOf]; omega
        · obtain rfl : m = j := by omega
          have hm := hid (fun h1 h2 => meets hc hd h1 h2)
          have hlc := hid (show c.yes.length < 1000 by have := hc.len; omega)
          have hld := hid (show d.yes.length < 1000 by have := hd.len; omega)
          clear hc hd
          have fin := hid (fun (c d : TM) (W : World) (hT : Two ba bma voa bb bmb vob w3 c d W) => HPW.out.kept_then hT.kept (fun k hk => by omega))
          generalize com A B m = C at *
          go_wp2_with fail
          refine (hT.yes_l S.out 1 rfl hlc.out).mono ?_
          rintro e w5 ⟨rfl, hT5⟩
          go_wp2_with fail
          refine (hT5.yes_r S.out 1 rfl hld.out).mono ?_
          rintro e w6 ⟨rfl, hT6⟩
          obtain ⟨M, hM⟩ : ∃ M, decide (((c.add 1).owners.length : Int) / 2 + 1 ≤ (c.add 1).owned) = M := ⟨_, rfl⟩
          obtain ⟨N, hN⟩ : ∃ N, decide (((d.add 1).owners.length : Int) / 2 + 1 ≤ (d.add 1).owned) = N := ⟨_, rfl⟩
          have hMN := hid (fun (h1 : M = true) (h2 : N = true) => hm.out (of_decide_eq_true (hM.trans h1)) (of_decide_eq_true (hN.trans h2)))
          have HM := hid hM
          have HN := hid hN
          clear hM hN hm hT hT5
          go_wp2_with fail
          refine (hT6.most_l M HM.out).mono ?_
          rintro e w7 ⟨rfl, hT7⟩
          clear hT6
          cases M with
          | false =>
            go_wp2_with fail
            go_ret
            exact ⟨rfl, fin.out _ _ _ hT7⟩
          | true =>
            go_wp2_with fail
            refine (hT7.most_r N HN.out).mono ?_
            rintro e w8 ⟨rfl, hT8⟩
            clear hT7
            cases N with
            | false =>
              go_wp2_with fail
              go_ret
              exact ⟨rfl, fin.out _ _ _ hT8⟩
            | true =>
              have hC : C = true := hMN.out (by simp) (by simp)
              subst hC
              go_wp2_with fail
              go_ret
              exact ⟨rfl, fin.out _ _ _ hT8⟩
end Go.Proofs.Ythghccccjmbjlaa
