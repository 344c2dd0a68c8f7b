/- StateOrder: the walk. -/
import Derived.Test.YtdlpnhfgjficgaaGreatMRn
namespace Go.Proofs.YtdlpnhfgjficgaaGreat
open Go.RowKit Go.Maps Go.Shelf

def knd (x : Rc) : Rc := { x with k := 2 + bits .and .i64 x.k 3 }
theorem knd_rk (x : Rc) : Rk (knd x) := by
  have h := andK x.k 3 (by decide)
  have hb : bits .and .i64 x.k 3 = 0 ∨ bits .and .i64 x.k 3 = 1 ∨ bits .and .i64 x.k 3 = 2 ∨ bits .and .i64 x.k 3 = 3 := by omega
  unfold Rk K7 knd
  dsimp only
  rcases hb with hb | hb | hb | hb <;> rw [hb] <;> decide
def txs (L : List Rc) (k : Nat) : List (List UInt8) := ((L.take k).map knd).map rtext
theorem acts_take {l : List Rc} {k : Nat} (h : k < l.length) (S : SD) : acts (l.take (k + 1)) S = act (l.getD k rc0) (acts (l.take k) S) := by
  rw [List.take_succ_eq_append_getElem h, acts_snoc]
  simp [List.getD, h]
theorem getD_rev {l : List Rc} {k : Nat} (h : k < l.length) : l.reverse.getD k rc0 = l.getD (l.length - 1 - k) rc0 := by
  simp [List.getD, List.getElem?_reverse h]
theorem getD_map {l : List Rc} {k : Nat} (h : k < l.length) : (l.map rtext).getD k [] = rtext (l.getD k rc0) := by
  simp [List.getD, h]
theorem St2.zero {n m : Nat} {w : World} (h : SAt n 0 0 (List.replicate 51 (.slice none 0 0)) w) : St2 n m S0 w := by
  have hv : ∀ j, j < 51 → (List.replicate 51 (Value.slice none 0 0))[j]? = some (.slice none 0 0) := fun j hj => by rw [List.getElem?_replicate, if_pos hj]
  have hz : ∀ i, SRows i (List.replicate 51 (.slice none 0 0)) S0 w := fun i => by
    have hf : ∀ k, (Value.slice none 0 0).rb = some k → k ≠ i := fun k hk => by simp [Value.rb] at hk
    refine ⟨by simp, fun p hp => ⟨_, _, _, hv _ (by omega), hv _ (by omega), hv _ (by omega), ?_, hf, hf, hf⟩, ⟨_, hv _ (by omega), Row.nil _ _, hf⟩, ⟨_, hv _ (by omega), Row.nil _ _, hf⟩, ⟨_, hv _ (by omega), Row.nil _ _, hf⟩⟩
    have : S0.bags.getD p nb = nb := nb_get 16 p
    rw [this]
    exact ⟨Row.nil _ _, Row.nil _ _, Row.nil _ _⟩
  exact ⟨_, h, hz n, hz m⟩
set_option maxRecDepth 8000 in
set_option maxHeartbeats 8000000 in
theorem order_walk (a0 : Option Addr) (len cap : Nat) (L : List Rc) (w : World) (h : RecsIn w a0 len cap L) :
    Calls Tryz.prog 6 #[.slice a0 len cap] w fun e w' => e = .returned (.bool true) ∧ Pure w w' := by
  obtain ⟨hlen, hrow, hwf⟩ := h
  subst hlen
  have haw := hid awake19_any
  have Htx := hid (fun k (hk : k < L.length) W => text_any (knd (L.getD k rc0)) W (show Rwf (knd (L.getD k rc0)) from hwf (L.getD k rc0) (by simp [List.getD, hk])))
  unfold TxP at Htx
  have Hrow := hid (fun W (hW : Pure w W) => (show Recs W (.slice a0 L.length cap) L from Row.pure hrow hW))
  clear hrow hwf
  go_enter Tryz.func6, Tryz.ntmps6
  go_wp2_with fail
  refine (haw.out _).mono ?_
  rintro e w1 ⟨rfl, hp1⟩
  have Hp1 := hid hp1
  clear hp1
  go_wp2_with fail
  refine (snew_any _).mono ?_
  rintro e w2 ⟨rfl, hs2, hp2⟩
  have Hp2 := hid (Hp1.out.then_ hp2)
  have Hs2 := hid (fun m => (show St2 w1.heap.size m S0 w2 from St2.zero hs2))
  obtain ⟨na, hna⟩ : ∃ n, n = w1.heap.size := ⟨_, rfl⟩
  have Hna := hid (show w.heap.size ≤ na from by rw [hna]; exact Hp1.out.size)
  rw [← hna] at Hs2 ⊢
  clear hs2 hp2 hna
  go_wp2_with fail
  refine (snew_any _).mono ?_
  rintro e w3 ⟨rfl, hs3, hp3⟩
  have Hp3 := hid (Hp2.out.then_ hp3)
  have Ha3 := hid (fun m => (show St2 na m S0 w3 from (Hs2.out m).pure hp3))
  have Hb3 := hid (fun m => (show St2 w2.heap.size m S0 w3 from St2.zero hs3))
  obtain ⟨nb_, hnb⟩ : ∃ n, n = w2.heap.size := ⟨_, rfl⟩
  have Hnb := hid (show w.heap.size ≤ nb_ from by rw [hnb]; exact Hp2.out.size)
  have Hne := hid (show na < nb_ from by rw [hnb]; exact (Hs2.out 0).lt)
  have Hlt3 := hid (show nb_ < w3.heap.size from by rw [hnb]; exact (Hb3.out 0).lt)
  rw [← hnb] at Hb3 ⊢
  clear hs3 hp3 hnb
  obtain ⟨i0, hi, hz0, hz1, hz2⟩ := info_parts infoStr
  go_wp2
  go_loopw [6, 7, 8] (fun v i _ wr => ∃ k : Nat, k ≤ L.length ∧ k ≤ 20 ∧ i = .int .i64 k ∧ wr.ownsRow w3.heap.size 9 1 v k (svs (txs L k)) ∧ Pure w3 wr) (fun _ i _ _ => 20 - (RowKit.intOf i).toNat)
  case atStart => exact ⟨0, Nat.zero_le _, Nat.zero_le _, rfl, World.ownsRow_nil _ _ _ _, Below.refl _ _⟩
  case round =>
    obtain ⟨k, hk, hk20, rfl, hown, hpr⟩ := hrel
    have Hown := hid hown
    have Hpr := hid hpr
    obtain ⟨av, cv, rfl⟩ := own_shape_d hown
    clear hown
    by_cases hlt : k < L.length ∧ k < 20
    · obtain ⟨hl1, hl2⟩ := hlt
      obtain ⟨b, off, rfl, hb0, x0, x1, x2, x3⟩ := Recs.get (Hrow.out wr (Hp3.out.then_ hpr)) hl1
      have hl1' : (k : Int) < (L.length : Int) := by omega
      have hl2' : (k : Int) < 20 := by omega
      have Ht := hid (Htx.out k hl1)
      have hsn : txs L (k + 1) = txs L k ++ [rtext (knd (L.getD k rc0))] := by
        unfold txs
        have e : L.take (k + 1) = L.take k ++ [L.getD k rc0] := by rw [List.take_succ_eq_append_getElem hl1]; simp [List.getD, hl1]
        rw [e, List.map_append, List.map_append]; rfl
      have Hsn := hid hsn
      generalize L.getD k rc0 = x at *
      have hbd := andK x.k 3 (by decide)
      have hw2 : wrap64 (2 + bits .and .i64 x.k 3) = 2 + bits .and .i64 x.k 3 := by unfold wrap64; omega
      generalize rtext (knd x) = tx at *
      obtain ⟨y1, y2, y3, y4⟩ := x
      unfold rcV knd at Ht
      dsimp only at Ht x0 x1 x2 x3 hw2 hbd
      clear hpr hb0 hsn hbd
      go_wp2_with fail
      refine (Ht.out _).mono ?_
      rintro e w5 ⟨rfl, hp5⟩
      have Hp5 := hid (show Pure w3 w5 from (Hpr.out.then_ ((Below.refl _ _).alloc (Nat.le_refl _) _)).then_ hp5)
      have Hq5 := hid (show Pure wr w5 from Pure.then_ ((Below.refl _ _).alloc (Nat.le_refl _) _) hp5)
      clear hp5 x0 x1 x2 x3
      go_wp2_with (at_builtin; refine wpList_append_own _ rfl _ _ 61 rfl w3.heap.size 9 i0 (.string ⟨#[]⟩) 1 16 Tryz.underlying61 hi hz0 hz1 hz2 rfl (by decide) (.slice av k cv) k (svs (txs L k)) rfl ((own_pure Hown.out Hq5.out).alloc _) ⟨w5.heap.size, 0, none⟩ 1 1 (svs [tx]) rfl rfl (str_lit_cells w5 tx) (svs_one _) (by unfold maxLen; omega) (by omega) (by have := Hp5.out.size; simp; omega) ?_)
      intro v6 w6 hown6 hg6 _
      have Hown6 := hid (show w6.ownsRow w3.heap.size 9 1 v6 (k + 1) (svs (txs L (k + 1))) from by rw [Hsn.out, svs_append]; exact hown6)
      have Hp6 := hid ((Hp5.out.alloc (Hp5.out.size) _).grown hg6 (by have := Hp5.out.size; simp; omega) (fun j hj => (Hown.out.lt j hj).1))
      clear hown6 hg6
      go_wp2
      go_roundw
      case rel => exact ⟨k + 1, by omega, by omega, by go_num, Hown6.out, Hp6.out⟩
      case measure => simp [RowKit.intOf]; omega
    · have hx : ¬ k < L.length ∨ (k < L.length ∧ k = 20) := by omega
      have hxx : (¬ (k : Int) < (L.length : Int)) ∨ ((k : Int) < (L.length : Int) ∧ ¬ (k : Int) < 20) := by omega
      clear hlt hx
      rcases hxx with hx' | ⟨hx', hx2⟩
      all_goals
        have hX : ((L.take k).map knd).length = k := by rw [List.length_map, List.length_take]; omega
        have HX := hid (show ∀ x ∈ (L.take k).map knd, Rk x from fun x hx => by
          obtain ⟨y, _, rfl⟩ := List.mem_map.1 hx
          exact knd_rk y)
        have hT : txs L k = ((L.take k).map knd).map rtext := rfl
        rw [hT] at Hown
        generalize (L.take k).map knd = X at *
        clear hT hpr
        have Hrv := hid (fun (j : Nat) (hj : (Value.slice av k cv).rb = some j) => (Hown.out.lt j (rb_own hj)).1)
        have Hstr := hid (show Strs wr (.slice av k cv) (X.map rtext) from by
          have := Row.of_own Hown.out
          unfold Strs
          rw [List.length_map, hX]; exact this)
        have Ha0 := hid ((Ha3.out nb_).pure Hpr.out)
        have Hb0 := hid ((Hb3.out na).pure Hpr.out)
        have Hpw := hid (Hp3.out.then_ Hpr.out)
        clear Hown
        go_wp2
        go_loopw [9] (fun i wr => ∃ j : Nat, j ≤ k ∧ i = .int .i64 j ∧ St2 na nb_ (acts (X.take j) S0) wr ∧ St2 nb_ na (acts (X.reverse.take j) S0) wr ∧ SOk (30 * j) (acts (X.take j) S0) ∧ SOk (30 * j) (acts (X.reverse.take j) S0) ∧ Strs wr (.slice av k cv) (X.map rtext) ∧ Pure w wr) (fun i _ => k - (RowKit.intOf i).toNat)
        case atStart => exact ⟨0, Nat.zero_le _, rfl, Ha0.out, Hb0.out, SOk.zero 0, SOk.zero 0, Hstr.out, Hpw.out⟩
        case round =>
          obtain ⟨j, hj, rfl, hsa, hsb, hoa, hob, hst, hpj⟩ := hrel
          have HSa := hid hsa
          have HSb := hid hsb
          have HOa := hid hoa
          have HOb := hid hob
          have HSt := hid hst
          have HPj := hid hpj
          clear hsa hsb hoa hob hpj
          by_cases hjk : j < k
          · have hjk' : (j : Int) < (k : Int) := by omega
            have hl1 : j < X.length := by omega
            have hl2 : j < X.reverse.length := by rw [List.length_reverse]; omega
            have Hta := hid (acts_take hl1 S0)
            have Htb := hid (acts_take hl2 S0)
            have Hga := hid (getD_map hl1)
            have Hgb := hid (getD_map (show X.length - 1 - j < X.length by omega))
            have Hrg := hid (getD_rev hl1)
            have Hra := hid (show Rk (X.getD j rc0) from HX.out _ (by simp [List.getD, hl1]))
            have Hrb := hid (show Rk (X.reverse.getD j rc0) from by rw [getD_rev hl1]; exact HX.out _ (by simp [List.getD, show X.length - 1 - j < X.length by omega]))
            obtain ⟨b, off, rfl, hb0, z0⟩ := Strs.get HSt.out (k := j) (by rw [List.length_map]; exact hl1)
            obtain ⟨b', off', e', hb1, z1⟩ := Strs.get HSt.out (k := X.length - 1 - j) (by rw [List.length_map]; omega)
            cases e'
            rw [Hga.out] at z0
            rw [Hgb.out] at z1
            rw [hX] at z1 Hrg Hgb
            have hjj : (k : Int) - 1 - (j : Int) = ((k - 1 - j : Nat) : Int) := by omega
            have hwk : wrap64 ((k : Int) - 1) = (k : Int) - 1 := by unfold wrap64; omega
            have hwj : wrap64 ((k : Int) - 1 - (j : Int)) = ((k - 1 - j : Nat) : Int) := by unfold wrap64; omega
            have hlk : ((k - 1 - j : Nat) : Int) < (k : Int) := by omega
            have Hokx := hid (act_ok Hra.out (acts (X.take j) S0))
            have Hoky := hid (act_ok Hrb.out (acts (X.reverse.take j) S0))
            rw [← Hrg.out] at z1
            have Hgy := hid (show (X.map rtext).getD (k - 1 - j) [] = rtext (X.reverse.getD j rc0) from by rw [Hgb.out, Hrg.out])
            have Hbx := hid (bsz_text (X.getD j rc0))
            have Hby := hid (bsz_text (X.reverse.getD j rc0))
            have Hacx := hid (show (appl (acts (X.take j) S0) (rtext (X.getD j rc0))).1 = acts (X.take (j + 1)) S0 from Hta.out.symm)
            have Hacy := hid (show (appl (acts (X.reverse.take j) S0) (rtext (X.reverse.getD j rc0))).1 = acts (X.reverse.take (j + 1)) S0 from Htb.out.symm)
            generalize rtext (X.getD j rc0) = tx at *
            generalize rtext (X.reverse.getD j rc0) = ty at *
            have Hapx := hid (fun W (h1 : St2 na nb_ (acts (X.take j) S0) W) (h2 : nb_ < W.heap.size) => (show Calls Tryz.prog 14 #[.pointer (some ⟨na, 0, none⟩), .string (bs tx)] W (fun e w' => e = .returned (.int .i64 0) ∧ St2 na nb_ (acts (X.take (j + 1)) S0) w' ∧ Kept (fun k => k = na) W w') from by
              have := sapply_any na nb_ (30 * j) 30 _ tx W h1 h2 HOa.out Hbx.out (by omega)
              unfold ApP at this
              rw [Hokx.out, Hacx.out] at this; exact this))
            have Hapy := hid (fun W (h1 : St2 nb_ na (acts (X.reverse.take j) S0) W) (h2 : na < W.heap.size) => (show Calls Tryz.prog 14 #[.pointer (some ⟨nb_, 0, none⟩), .string (bs ty)] W (fun e w' => e = .returned (.int .i64 0) ∧ St2 nb_ na (acts (X.reverse.take (j + 1)) S0) w' ∧ Kept (fun k => k = nb_) W w') from by
              have := sapply_any nb_ na (30 * j) 30 _ ty W h1 h2 HOb.out Hby.out (by omega)
              unfold ApP at this
              rw [Hoky.out, Hacy.out] at this; exact this))
            have HOa2 := hid (show SOk (30 * (j + 1)) (acts (X.take (j + 1)) S0) from by rw [← Hacx.out, Nat.mul_add]; exact HOa.out.appl Hbx.out)
            have HOb2 := hid (show SOk (30 * (j + 1)) (acts (X.reverse.take (j + 1)) S0) from by rw [← Hacy.out, Nat.mul_add]; exact HOb.out.appl Hby.out)
            generalize hSA : acts (X.take (j + 1)) S0 = SA at *
            generalize hSB : acts (X.reverse.take (j + 1)) S0 = SB at *
            have HeA := hid hSA
            have HeB := hid hSB
            clear hSA hSB
            go_wp2_with fail
            refine (Hapx.out _ HSa.out HSb.out.lt).mono ?_
            rintro e w7 ⟨rfl, hs7, hk7⟩
            have HS7 := hid hs7
            have HT7 := hid (HSb.out.keep hk7 (by have := Hne.out; omega))
            have HP7 := hid (pure_box HPj.out hk7 Hna.out)
            have HR7 := hid (show Strs w7 (.slice (some ⟨b, off, none⟩) k cv) (X.map rtext) from Row.kept HSt.out hk7 (fun i hi e => by have := Hrv.out i hi; have := Hlt3.out; have := Hne.out; omega))
            obtain ⟨b2, off2, e2, hb2, z2⟩ := Strs.get HR7.out (k := k - 1 - j) (by rw [List.length_map]; omega)
            cases e2
            rw [Hgy.out] at z2
            clear hs7 hk7 z0 z1 hb0 hb1 hb2
            go_wp2_with fail
            refine (Hapy.out _ HT7.out HS7.out.lt).mono ?_
            rintro e w8 ⟨rfl, hs8, hk8⟩
            have HT8 := hid hs8
            have HS8 := hid (HS7.out.keep hk8 (by have := Hne.out; omega))
            have HP8 := hid (pure_box HP7.out hk8 Hnb.out)
            have HR8 := hid (show Strs w8 (.slice (some ⟨b, off, none⟩) k cv) (X.map rtext) from Row.kept HR7.out hk8 (fun i hi e => by have := Hrv.out i hi; have := Hlt3.out; have := Hne.out; omega))
            clear hs8 hk8 z2
            go_wp2
            go_roundw
            case rel => exact ⟨j + 1, by omega, by go_num, by rw [HeA.out]; exact HS8.out, by rw [HeB.out]; exact HT8.out, by rw [HeA.out]; exact HOa2.out, by rw [HeB.out]; exact HOb2.out, HR8.out, HP8.out⟩
            case measure => simp [RowKit.intOf]; omega
          · obtain rfl : j = k := by omega
            have hjk' : ¬ (j : Int) < (j : Int) := by omega
            have hzero := SI.zero
            rw [List.take_of_length_le (by rw [List.length_reverse]; omega), acts_rev X hzero HX.out] at HSb HOb
            rw [List.take_of_length_le (by omega)] at HSa HOa
            generalize acts X S0 = S at *
            clear hst
            go_wp2_with fail
            refine (srecs_any na S (30 * j) _ HSa.out.st HOa.out (by omega)).mono ?_
            rintro e w7 ⟨v7, rfl, ho7, hp7⟩
            obtain ⟨a7, c7, rfl⟩ := own_shape_d ho7
            have HO7 := hid ho7
            have HP7 := hid hp7
            clear ho7 hp7
            go_wp2_with fail
            refine (srecs_any nb_ S (30 * j) _ (HSb.out.pure HP7.out).st HOb.out (by omega)).mono ?_
            rintro e w8 ⟨v8, rfl, ho8, hp8⟩
            obtain ⟨a8, c8, rfl⟩ := own_shape_d ho8
            have HO8 := hid ho8
            have HP8 := hid hp8
            clear ho8 hp8
            go_wp2_with fail
            refine (rstexts_any _ _ (srecs S) (srecs S) w8 (Row.pure (Row.of_own HO7.out) HP8.out) (Row.of_own HO8.out)).mono ?_
            rintro e w9 ⟨rfl, hp9⟩
            rw [show decide (srecs S = srecs S) = true by simp]
            have HP9 := hid (((HPj.out.then_ HP7.out).then_ HP8.out).then_ hp9)
            clear hp9
            go_wp2
            go_ret
            exact ⟨rfl, HP9.out⟩
end Go.Proofs.YtdlpnhfgjficgaaGreat
