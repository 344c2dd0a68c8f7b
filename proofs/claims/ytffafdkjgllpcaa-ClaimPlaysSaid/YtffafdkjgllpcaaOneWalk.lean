import Derived.Test.YtffafdkjgllpcaaOneLaw
import Derived.Test.YtffafdkjgllpcaaClaimI
namespace Go.Proofs.Ytffafdkjgllpcaa
open Go.RowKit Go.Maps

/-- k numbers from b on. -/
def from_ (b : Int) (k : Nat) : List Int := (List.range k).map fun (i : Nat) => b + (i : Int)
theorem from_len (b : Int) (k : Nat) : (from_ b k).length = k := by simp [from_]
theorem from_succ (b : Int) (k : Nat) : from_ b (k + 1) = from_ b k ++ [b + (k : Int)] := by simp [from_, List.range_succ]
theorem from_get (b : Int) (k i : Nat) (h : i < k) : (from_ b k).getD i 0 = b + (i : Int) := by simp [from_, List.getD, h]
theorem from_wf (b : Int) (k : Nat) (h : -1000000 ≤ b) (h1 : b ≤ 1000000) (h2 : k ≤ 1000000) : AllWf (from_ b k) := by
  intro x hx
  simp only [from_, List.mem_map, List.mem_range] at hx
  obtain ⟨i, hi, rfl⟩ := hx
  exact wf_i64 _ (by omega)

theorem nodup_dd : ∀ (l acc : List Int), (acc ++ l).Nodup → ddo acc l = acc ++ l
  | [], acc, _ => by simp [ddo]
  | x :: l, acc, h => by
    have hx : x ∉ acc := fun hm => by
      have := (List.nodup_append.1 h).2.2 x hm x (by simp)
      exact this rfl
    unfold ddo
    rw [if_neg hx, nodup_dd l (acc ++ [x]) (by simpa using h)]
    simp
theorem from_nodup (b : Int) (k : Nat) : (from_ b k).Nodup := by
  unfold from_
  rw [List.Nodup, List.pairwise_map]
  exact List.nodup_range.imp (fun {x y} h e => h (by omega))
theorem from_dd (b : Int) (k : Nat) : dd (from_ b k) = from_ b k := by
  have := nodup_dd (from_ b k) [] (by simpa using from_nodup b k)
  simpa [dd] using this
theorem from_ok (k : Nat) (h1 : 1 ≤ k) (h2 : k ≤ 12) : newOk (from_ 10 k) 0 10 1 := by
  unfold newOk
  rw [from_dd, from_len]
  omega

def sideOf (sides : List Int) (i : Nat) : Int := if i < sides.length then (sides.getD i 0).tmod 3 % 3 else 0
def says (sides : List Int) (x : Int) (o : Int) : Bool := sideOf sides (o - 10).toNat == x
theorem sd_in {sides : List Int} {i : Nat} (h : i < sides.length) : sideOf sides i = (sides.getD i 0).tmod 3 % 3 := by unfold sideOf; rw [if_pos h]
theorem sd_out {sides : List Int} {i : Nat} (h : ¬ i < sides.length) : sideOf sides i = 0 := by unfold sideOf; rw [if_neg h]
def ixOf (turned : Bool) (K m : Nat) : Nat := if turned then K - 1 - m else m
def asked (turned : Bool) (K m : Nat) : List Int := (List.range m).map fun (r : Nat) => 10 + (ixOf turned K r : Int)
theorem asked_succ (turned : Bool) (K m : Nat) : asked turned K (m + 1) = asked turned K m ++ [10 + (ixOf turned K m : Int)] := by simp [asked, List.range_succ]
theorem asked_mem (turned : Bool) (K : Nat) : ∀ o ∈ from_ 10 K, o ∈ asked turned K K := by
  intro o ho
  simp only [from_, List.mem_map, List.mem_range] at ho
  obtain ⟨i, hi, rfl⟩ := ho
  simp only [asked, List.mem_map, List.mem_range]
  cases turned with
  | false => exact ⟨i, hi, by simp [ixOf]⟩
  | true => exact ⟨K - 1 - i, by omega, by simp [ixOf]; omega⟩
theorem mem_from (b : Int) (k i : Nat) (h : i < k) : b + (i : Int) ∈ from_ b k := by simp only [from_, List.mem_map, List.mem_range]; exact ⟨i, h, rfl⟩
theorem says_at (sides : List Int) (x : Int) (i : Nat) : says sides x (10 + (i : Int)) = (sideOf sides i == x) := by
  unfold says; rw [show ((10 : Int) + (i : Int) - 10).toNat = i by omega]

set_option maxHeartbeats 400000 in
theorem one_walk (n : Int) (v : Value) (sides : List Int) (turned : Bool) (w : World) (hv : Ints w v sides) :
    Calls Try.prog 3 #[.int .i64 n, v, .bool turned] w fun e w' => e = .returned (.bool true) ∧ Pure w w' := by
  have ha := hid (awake_any w)
  have r1 : -12 < n.tmod 12 := by have := Int.lt_tmod_of_pos n (show (0 : Int) < 12 by decide); omega
  have r2 : n.tmod 12 < 12 := Int.tmod_lt_of_pos n (by decide)
  obtain ⟨K, hK⟩ : ∃ K : Nat, 1 + n.tmod 12 % 12 = (K : Int) := ⟨(1 + n.tmod 12 % 12).toNat, by omega⟩
  have hK1 : 1 ≤ K := by omega
  have hK2 : K ≤ 12 := by omega
  obtain ⟨a, cap, rfl⟩ := hv.shape
  go_enter Try.func3, Try.ntmps3
  go_wp2_with fail
  refine ha.out.mono ?_
  rintro e w1 ⟨rfl, hp1⟩
  go_wp2_with fail
  rw [show (n.tmod 12 + 12) % 12 = n.tmod 12 % 12 by omega]
  clear hK r1 r2
  obtain ⟨i0, hi, hz0, hz1, hz2⟩ := info_parts infoInt
  go_loopw [9, 10] (fun v i wr => ∃ j : Nat, j ≤ K ∧ i = .int .i64 j ∧ wr.ownsRow w.heap.size 3 1 v (from_ 10 j).length ((from_ 10 j).map (Value.int .i64)) ∧ Pure w wr) (fun _ i _ => K - (intOf i).toNat)
  case atStart => exact ⟨0, Nat.zero_le _, rfl, World.ownsRow_nil _ _ _ _, hp1⟩
  case round =>
    obtain ⟨j, hj, rfl, hown, hp⟩ := hrel
    by_cases hlt : j < K
    · have hfl : (from_ 10 j).length ≤ 12 := by rw [from_len]; omega
      go_wp2_with (at_builtin; refine wpList_append_own _ rfl _ _ 22 rfl w.heap.size 3 i0 (.int .i64 0) 1 8 Try.underlying22 hi hz0 hz1 hz2 rfl (by decide) _ _ _ rfl (hown.alloc _) ⟨wr.heap.size, 0, none⟩ 1 1 [.int .i64 (10 + (j : Int))] rfl rfl hnews_one ?c2 ?c3 ?c4 ?c5 ?_)
      case c2 => intro u hu; simp at hu; subst hu; rfl
      case c3 => unfold maxLen; omega
      case c4 => omega
      case c5 => have := hp.size; simp; omega
      intro v2 w2 hown2 hg2 _
      go_wp2
      go_roundw
      case rel => exact ⟨j + 1, by omega, by go_num, by rw [from_succ]; exact ownsRow_snoc hown2, (hp.alloc hp.size _).grown hg2 (by have := hp.size; simp; omega) (fun k hk => (hown.lt k hk).1)⟩
      case measure => simp [intOf]; omega
    · obtain rfl : j = K := by omega
      obtain ⟨wo, rfl⟩ : ∃ wo : World, wo = wr := ⟨_, rfl⟩
      have hwf := from_wf 10 j (by omega) (by omega) (by omega)
      obtain ⟨a2, cap2, rfl⟩ := (Row.of_own hown).shape
      have hI : Ints wo (.slice a2 j cap2) (from_ 10 j) := by
        have h := Row.of_own hown
        rw [from_len] at h
        unfold Ints
        rw [from_len]; exact h
      have hnew := hid (fun (rc : Int) (W : World) (hW : Pure wo W) => new_ok 1 1 rc 0 10 1 _ (from_ 10 j) W (hI.pure hW) (by rw [from_len]; omega) hwf (from_ok j hK1 hK2))
      rw [from_len]
      have HI := hid hI
      have Hp := hid hp
      clear hI hown hp
      go_wp2_with fail
      refine (hnew.out 1 _ (Below.refl _ _)).mono ?_
      rintro e w2 ⟨ba, bma, voa, rfl, hA, hba, hbma, hvoa, hp2⟩
      go_wp2_with fail
      refine (hnew.out 2 _ hp2).mono ?_
      rintro e w3 ⟨bb, bmb, vob, rfl, hB, hbb, hbmb, hvob, hp3⟩
      go_wp2_with fail
      have hA3 : ClaimAt w3 ba bma voa (newCM 1 1 1 (from_ 10 j) 0 10 1) := hA.pure hp3
      have hI3 : Ints w3 (.slice a2 j cap2) (from_ 10 j) := (HI.out.pure hp2).pure hp3
      have hpw3 : Pure w w3 := (Hp.out.then_ hp2).then_ hp3
      have hv3 : Ints w3 (.slice a sides.length cap) sides := hv.pure hpw3
      have hba3 : ba < w2.heap.size := lt_of_block hA.blk
      have hbma3 : bma < w2.heap.size := hA.map.lt
      have hvoa3 : ∀ k, voa.rb = some k → k < w2.heap.size := Row.lt hA.own
      have hown2 : ∀ k, (Value.slice a2 j cap2).rb = some k → k < wo.heap.size := Row.lt HI.out
      have hsz2 := hp2.size
      have hsz3 := hp3.size
      have hszw : w.heap.size ≤ wo.heap.size := Hp.out.size
      have hvw : ∀ k, (Value.slice a sides.length cap).rb = some k → k < w.heap.size := Row.lt hv
      have HA := hid hA3
      have HB := hid hB
      have HI3 := hid hI3
      have HV3 := hid hv3
      have HPW := hid hpw3
      clear hA hA3 hB hI3 hv3 hpw3 hp2 hp3 hv
      go_loopw [13] (fun i wq => ∃ (m : Nat) (ca cb : CM), m ≤ j ∧ i = .int .i64 m ∧ ClaimAt wq ba bma voa ca ∧ ClaimAt wq bb bmb vob cb ∧ Asked (from_ 10 j) (says sides 1) (asked turned j m) ca ∧ Asked (from_ 10 j) (says sides 2) (asked turned j m) cb ∧ Kept (fun k => k = ba ∨ k = bma ∨ k = bb ∨ k = bmb) w3 wq) (fun i _ => j - (intOf i).toNat)
      case atStart =>
        have hne : from_ 10 j ≠ [] := fun e => by have := congrArg List.length e; rw [from_len] at this; simp at this; omega
        exact ⟨0, _, _, Nat.zero_le _, rfl, HA.out, HB.out, asked_start _ _ _ (from_dd 10 j) rfl rfl hne, asked_start _ _ _ (from_dd 10 j) rfl rfl hne, Kept.refl _ _⟩
      case round =>
        obtain ⟨m, ca, cb, hm, rfl, hA, hB, hsA, hsB, hk⟩ := hrel
        have kA := hA.own.shape
        by_cases hlt : m < j
        · -- what the round reads
          obtain ⟨ix, hix⟩ : ∃ ix, ix = ixOf turned j m := ⟨_, rfl⟩
          have hixj : ix < j := by rw [hix]; unfold ixOf; split <;> omega
          have hI : Ints wr (.slice a2 j cap2) (from_ 10 j) := HI3.out.kept hk (fun k hk => by have := hown2 k hk; omega)
          have hV : Ints wr (.slice a sides.length cap) sides := HV3.out.kept hk (fun k hk => by have := hvw k hk; omega)
          obtain ⟨ob, off, ho1, ho2, ho3⟩ : ∃ ob off, a2 = some ⟨ob, off, none⟩ ∧ ob < wr.heap.size ∧ wr.cell? ⟨ob, off + ix, none⟩ = some (.int .i64 (10 + (ix : Int))) := by
            obtain ⟨_, _, _, ⟨h, _⟩ | ⟨ob, off, h1, h2, h3⟩⟩ := hI.cell
            · have := congrArg List.length h; rw [from_len] at this; simp at this; omega
            · exact ⟨ob, off, h1, h2, by rw [h3 ix (by rw [from_len]; omega), from_get _ _ _ hixj]⟩
          subst ho1
          have hob : ob < wo.heap.size := by
            have h := HI.out
            unfold Ints at h
            rw [from_len] at h
            exact Row.lt_addr h (by omega)
          have hwfx : (Lit.int .i64 (10 + (ix : Int))).wf = true := wf_i64 _ (by omega)
          have hlA : ca.owners.length ≤ 1000000 := by rw [hsA.owners, from_len]; omega
          have hlB : cb.owners.length ≤ 1000000 := by rw [hsB.owners, from_len]; omega
          have hwA : AllWf ca.owners := by rw [hsA.owners]; exact hwf
          have hwB : AllWf cb.owners := by rw [hsB.owners]; exact hwf
          have stA := asked_step hsA (mem_from 10 j ix hixj)
          have stB := asked_step hsB (mem_from 10 j ix hixj)
          rw [says_at, hix, ← asked_succ, ← hix] at stA stB
          have ansA := fun (y : Bool) => answer_any ba bma voa ca (10 + (ix : Int)) y wr hA hwfx hlA hwA
          have ansB := fun (y : Bool) (W : World) (hW : Kept (fun k => k = ba ∨ k = bma) wr W) => answer_any bb bmb vob cb (10 + (ix : Int)) y W (hB.kept hW (by omega) (by omega) (fun k hk => by have := hvob k hk; omega)) hwfx hlB hwB
          have oc := fun (W : World) (hW : Kept (fun k => k = ba ∨ k = bma) wr W) => (hW.cell (p := ⟨ob, off + ix, none⟩) ho2 (by simp; omega)).trans ho3
          have HansA := hid ansA
          have HansB := hid ansB
          have Hoc := hid oc
          have HstA := hid stA
          have HstB := hid stB
          have Hk := hid hk
          have HkA := hid (fun (W : World) (h : ClaimAt W bb bmb vob cb) => h)
          have HA' := hid (fun (W : World) (c : CM) (hc : ClaimAt W ba bma voa c) (W' : World) (hW : Kept (fun k => k = bb ∨ k = bmb) W W') => hc.kept hW (by omega) (by omega) (fun k hk => by have := hvoa3 k hk; omega))
          clear ansA ansB oc stA stB hk hsA hsB hA hB hI hwfx hlA hlB hwA hwB kA
          cases turned with
          | false =>
            have hix2 : ix = m := by rw [hix]; simp [ixOf]
            subst hix2
            clear hix
            by_cases hsi : ix < sides.length
            · have hsd := sd_in hsi
              obtain ⟨sb, so, hs1, hs2, hs3⟩ : ∃ sb so, a = some ⟨sb, so, none⟩ ∧ sb < wr.heap.size ∧ wr.cell? ⟨sb, so + ix, none⟩ = some (.int .i64 (sides.getD ix 0)) := by
                obtain ⟨_, _, _, ⟨h, _⟩ | ⟨ob, off, h1, h2, h3⟩⟩ := hV.cell
                · rw [h] at hsi; simp at hsi
                · exact ⟨ob, off, h1, h2, h3 ix hsi⟩
              subst hs1
              generalize sides.getD ix 0 = x at *
              have x1 : -3 < x.tmod 3 := by have := Int.lt_tmod_of_pos x (show (0 : Int) < 3 by decide); omega
              have x2 : x.tmod 3 < 3 := Int.tmod_lt_of_pos x (by decide)
              generalize sideOf sides ix = sd at *
              have hsd' : x.tmod 3 % 3 = sd := hsd.symm
              clear hsd hV
              go_wp2_with fail
              refine (HansA.out _).mono ?_
              rintro e w5 ⟨rfl, hA5, hk5⟩
              have o5 := Hoc.out w5 hk5
              have Hk5 := hid hk5
              have HA5 := hid hA5
              clear hk5 hA5
              go_wp2_with fail
              refine (HansB.out _ w5 Hk5.out).mono ?_
              rintro e w6 ⟨rfl, hB6, hk6⟩
              have HB6 := hid hB6
              have Hk6 := hid hk6
              clear hB6 hk6 o5
              go_wp2
              go_roundw
              case rel => exact ⟨ix + 1, _, _, by omega, by go_num, HA'.out _ _ HA5.out _ Hk6.out, HB6.out, HstA.out, HstB.out, (Hk.out.trans (Hk5.out.mono (fun _ _ h => by omega))).trans (Hk6.out.mono (fun _ _ h => by omega))⟩
              case measure => simp [intOf]; omega
            · have hsd := sd_out hsi
              rw [hsd] at HstA HstB
              clear hsd hV
              go_wp2_with fail
              refine (HansA.out _).mono ?_
              rintro e w5 ⟨rfl, hA5, hk5⟩
              have o5 := Hoc.out w5 hk5
              have Hk5 := hid hk5
              have HA5 := hid hA5
              clear hk5 hA5
              go_wp2_with fail
              refine (HansB.out _ w5 Hk5.out).mono ?_
              rintro e w6 ⟨rfl, hB6, hk6⟩
              have HB6 := hid hB6
              have Hk6 := hid hk6
              clear hB6 hk6 o5
              go_wp2
              go_roundw
              case rel => exact ⟨ix + 1, _, _, by omega, by go_num, HA'.out _ _ HA5.out _ Hk6.out, HB6.out, HstA.out, HstB.out, (Hk.out.trans (Hk5.out.mono (fun _ _ h => by omega))).trans (Hk6.out.mono (fun _ _ h => by omega))⟩
              case measure => simp [intOf]; omega
          | true =>
            have hix2 : ix = j - 1 - m := by rw [hix]; simp [ixOf]
            have hixe : (j : Int) - 1 - (m : Int) = (ix : Int) := by omega
            clear hix hix2
            by_cases hsi : ix < sides.length
            · have hsd := sd_in hsi
              obtain ⟨sb, so, hs1, hs2, hs3⟩ : ∃ sb so, a = some ⟨sb, so, none⟩ ∧ sb < wr.heap.size ∧ wr.cell? ⟨sb, so + ix, none⟩ = some (.int .i64 (sides.getD ix 0)) := by
                obtain ⟨_, _, _, ⟨h, _⟩ | ⟨ob, off, h1, h2, h3⟩⟩ := hV.cell
                · rw [h] at hsi; simp at hsi
                · exact ⟨ob, off, h1, h2, h3 ix hsi⟩
              subst hs1
              generalize sides.getD ix 0 = x at *
              have x1 : -3 < x.tmod 3 := by have := Int.lt_tmod_of_pos x (show (0 : Int) < 3 by decide); omega
              have x2 : x.tmod 3 < 3 := Int.tmod_lt_of_pos x (by decide)
              generalize sideOf sides ix = sd at *
              have hsd' : x.tmod 3 % 3 = sd := hsd.symm
              clear hsd hV
              go_wp2_with fail
              refine (HansA.out _).mono ?_
              rintro e w5 ⟨rfl, hA5, hk5⟩
              have o5 := Hoc.out w5 hk5
              have Hk5 := hid hk5
              have HA5 := hid hA5
              clear hk5 hA5
              go_wp2_with fail
              refine (HansB.out _ w5 Hk5.out).mono ?_
              rintro e w6 ⟨rfl, hB6, hk6⟩
              have HB6 := hid hB6
              have Hk6 := hid hk6
              clear hB6 hk6 o5
              go_wp2
              go_roundw
              case rel => exact ⟨m + 1, _, _, by omega, by go_num, HA'.out _ _ HA5.out _ Hk6.out, HB6.out, HstA.out, HstB.out, (Hk.out.trans (Hk5.out.mono (fun _ _ h => by omega))).trans (Hk6.out.mono (fun _ _ h => by omega))⟩
              case measure => simp [intOf]; omega
            · have hsd := sd_out hsi
              rw [hsd] at HstA HstB
              clear hsd hV
              go_wp2_with fail
              refine (HansA.out _).mono ?_
              rintro e w5 ⟨rfl, hA5, hk5⟩
              have o5 := Hoc.out w5 hk5
              have Hk5 := hid hk5
              have HA5 := hid hA5
              clear hk5 hA5
              go_wp2_with fail
              refine (HansB.out _ w5 Hk5.out).mono ?_
              rintro e w6 ⟨rfl, hB6, hk6⟩
              have HB6 := hid hB6
              have Hk6 := hid hk6
              clear hB6 hk6 o5
              go_wp2
              go_roundw
              case rel => exact ⟨m + 1, _, _, by omega, by go_num, HA'.out _ _ HA5.out _ Hk6.out, HB6.out, HstA.out, HstB.out, (Hk.out.trans (Hk5.out.mono (fun _ _ h => by omega))).trans (Hk6.out.mono (fun _ _ h => by omega))⟩
              case measure => simp [intOf]; omega
        · obtain rfl : m = j := by omega
          have hnA := asked_all hsA (asked_mem turned m)
          have hnB := asked_all hsB (asked_mem turned m)
          have hno := asked_two hsA hsB (fun o h1 h2 => by simp [says] at h1 h2; omega)
          have stA := hid (state_yes ba bma voa ca wr hA)
          have stB := hid (state_yes bb bmb vob cb wr hB)
          have Hk := hid hk
          clear hA hB hsA hsB hk kA
          have n1 : (ca.state != 0) = true := by simp [hnA]
          have n2 : (cb.state != 0) = true := by simp [hnB]
          generalize ca.state = sa at *
          generalize cb.state = sb at *
          have hfin : Pure w wr := HPW.out.kept_then Hk.out (fun k hk => by omega)
          have Hfin := hid hfin
          clear hfin hnA hnB
          by_cases e1 : sa = 1
          · have e2 : (sb == 1) = false := by simp; exact fun h => hno ⟨e1, h⟩
            have e1' : (sa == 1) = true := by simp [e1]
            clear e1 hno
            go_wp2_with fail
            refine stA.out.mono ?_
            rintro e w' ⟨rfl, rfl⟩
            go_wp2_with fail
            refine stB.out.mono ?_
            rintro e w' ⟨rfl, rfl⟩
            go_wp2_with fail
            refine stA.out.mono ?_
            rintro e w' ⟨rfl, rfl⟩
            go_wp2_with fail
            refine stB.out.mono ?_
            rintro e w' ⟨rfl, rfl⟩
            go_wp2
            go_ret
            exact ⟨rfl, Hfin.out⟩
          · have e1' : (sa == 1) = false := by simp [e1]
            clear e1 hno
            go_wp2_with fail
            refine stA.out.mono ?_
            rintro e w' ⟨rfl, rfl⟩
            go_wp2_with fail
            refine stB.out.mono ?_
            rintro e w' ⟨rfl, rfl⟩
            go_wp2_with fail
            refine stA.out.mono ?_
            rintro e w' ⟨rfl, rfl⟩
            go_wp2_with fail
            refine stB.out.mono ?_
            rintro e w' ⟨rfl, rfl⟩
            go_wp2
            go_ret
            exact ⟨rfl, Hfin.out⟩
end Go.Proofs.Ytffafdkjgllpcaa
