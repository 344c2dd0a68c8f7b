/- ref01's readers. -/
import Derived.Test.YtdlpnhfgjficgaaGreatRW
import Derived.Test.YtdlpnhfgjficgaaGreatMBs
namespace Go.Proofs.YtdlpnhfgjficgaaGreat
open Go.RowKit Go.Maps

theorem bs_listz (l : List UInt8) : (bs l).toList = l := ByteArray.toList_mk l
theorem rz_w0 (m : Nat) (ho : m < 144115188075855872) : IntKind.u64.wrap ((m : Int) * 128) = (m : Int) * 128 := IntWalk.u64_in _ (by omega)
theorem rz_w1 (m c V : Nat) (ho : m < 144115188075855872) (hV : V = m * 128 + c % 128) : IntKind.u64.wrap ((m : Int) * 128 + (c : Int) % 128) = (V : Int) := by rw [IntWalk.u64_in _ (by omega)]; omega
theorem rz_c8 (c : UInt8) : IntKind.u64.wrap (c.toNat : Int) = (c.toNat : Int) := IntWalk.u64_in _ (by have := c.toNat_lt; omega)
theorem rz_cm (c : UInt8) : (c.toNat : Int) % 18446744073709551616 = (c.toNat : Int) := by have := c.toNat_lt; omega
theorem rz_lt (m : Nat) (ho : ¬ 18446744073709551616 ≤ m * 128) : m < 144115188075855872 := by omega
theorem rz_V (m c V : Nat) (ho : m < 144115188075855872) (hV : V = m * 128 + c % 128) : V < 18446744073709551616 := by omega

set_option maxRecDepth 8000 in
set_option maxHeartbeats 4000000 in
theorem rnumr_any (b : Nat) (s : RS) (w : World) (h : RdAt 98 b s w) :
    Calls Tryz.prog 110 #[.pointer (some ⟨b, 0, none⟩)] w (RdP 98 b (.int .u64 ((rdNum s).1 : Nat)) (rdNum s).2 w) := by
  obtain ⟨l, t, e, rfl⟩ := h
  have he := hid e
  have c0 := cell_of_block e 0
  have c1 := cell_of_block e 1
  have f0 := free_of_block e 0
  have f1 := free_of_block e 1
  simp at c0 c1
  clear e
  cases t
  · show Calls _ _ _ w (RdP 98 b (.int .u64 ((rdNum (some l)).1 : Nat)) (rdNum (some l)).2 w)
    have hsz := bs_size l
    generalize hR : rdNum (some l) = R
    have HR := hid hR
    clear hR
    have Htorn : Hid (∀ W, Pure w W → R = (0, none) → RdP 98 b (.int .u64 (R.1 : Nat)) R.2 w (.returned (.int .u64 0)) (W.setCell ⟨b, 1, none⟩ (.bool true))) := fun W hW e => by
      rw [e]
      exact ⟨rfl, ⟨l, true, RdAt.set1 ((hW.block _ (lt_of_block he.out)).trans he.out) true, rfl⟩, Kept.setCell (S := fun k => k = b) (p := ⟨b, 1, none⟩) (hW.kept (S := fun k => k = b)) (fun _ => rfl) _⟩
    have Hset : Hid (∀ W r n, Pure w W → R = (n, some r) → RdP 98 b (.int .u64 (R.1 : Nat)) R.2 w (.returned (.int .u64 (n : Nat))) (W.setCell ⟨b, 0, none⟩ (.string (bs r)))) := fun W r n hW e => by
      rw [e]
      exact ⟨rfl, ⟨r, false, RdAt.set ((hW.block _ (lt_of_block he.out)).trans he.out) r, rfl⟩, Kept.setCell (S := fun k => k = b) (p := ⟨b, 0, none⟩) (hW.kept (S := fun k => k = b)) (fun _ => rfl) _⟩
    have Hcell : Hid (∀ W, Pure w W → (W.cell? ⟨b, 0, none⟩ = some (.string (bs l)) ∧ W.frozen? ⟨b, 0, none⟩ = false ∧ W.frozen? ⟨b, 1, none⟩ = false ∧ W.cell? ⟨b, 1, none⟩ = some (.bool false))) := fun W hW => ⟨cell_of_block ((hW.block _ (lt_of_block he.out)).trans he.out) 0, free_of_block ((hW.block _ (lt_of_block he.out)).trans he.out) 0, free_of_block ((hW.block _ (lt_of_block he.out)).trans he.out) 1, cell_of_block ((hW.block _ (lt_of_block he.out)).trans he.out) 1⟩
    go_enter Tryz.func110, Tryz.ntmps110
    go_wp2
    go_loopw [3, 4] (fun n i wr => ∃ (k m : Nat), i = .int .i64 k ∧ n = .int .u64 m ∧ RdI l k m ∧ wr = w) (fun _ i _ => 10 - (RowKit.intOf i).toNat)
    case atStart => exact ⟨0, 0, rfl, rfl, RdI.start _, rfl⟩
    case round =>
      obtain ⟨k, m, rfl, rfl, hI, rfl⟩ := hrel
      have HI := hid hI
      have h10 := hI.le10
      have hle := hI.le
      have hmm := hI.lt
      clear hI
      by_cases hlt : k < l.length ∧ k < 10
      · obtain ⟨hk1, hk2⟩ := hlt
        have hk1' : (k : Int) < (l.length : Int) := by omega
        have hk2' : (k : Int) < 10 := by omega
        obtain ⟨c, hc⟩ : ∃ c, c = l.getD k 0 := ⟨_, rfl⟩
        have hidx : ∀ h, (bs l)[k]'h = c := fun h => (bs_get l k h).trans hc.symm
        have hclt := c.toNat_lt
        by_cases ho : 18446744073709551616 ≤ m * 128
        · have hgt : (144115188075855871 : Int) < (m : Int) := by omega
          have HT := hid (Htorn.out wr (Below.refl _ _) (HR.out.symm.trans (HI.out.over hk1 hk2 ho)))
          clear ho hc
          go_wp2
          exact bodyPost_ret (v := .int .u64 0) (by simp [results, Tryz.results110, go_sem]) rfl HT.out
        · have hgt : ¬ (144115188075855871 : Int) < (m : Int) := by omega
          have hlm := rz_lt m ho
          have Hw0 := hid (rz_w0 m hlm)
          have Hc8 := hid (rz_c8 c)
          have Hmod := hid (rz_cm c)
          obtain ⟨V, hV⟩ : ∃ V : Nat, V = m * 128 + c.toNat % 128 := ⟨_, rfl⟩
          have Hw1 := hid (rz_w1 m c.toNat V hlm hV)
          have hV64 := rz_V m c.toNat V hlm hV
          have Ho := hid ho
          have HV := hid hV
          have Hc := hid hc
          by_cases hcl : c.toNat < 128
          · have hcl' : (c.toNat : Int) < 128 := by omega
            have hask := HI.out.asks hk1 ho (by rw [← hc]; exact hcl)
            have hhit := hid (fun h => HI.out.hit hk1 hk2 ho (by rw [← hc]; exact hcl) h)
            rw [← hc] at hask hhit
            have hVe : m * 128 + c.toNat = V := by omega
            rw [hVe] at hask hhit
            have hnum := hid (fun W => rnum_any V W hV64)
            have hS : Hid (∀ W, Pure wr W → (W.cell? ⟨b, 0, none⟩ = some (.string (bs l)) ∧ Pure wr W)) := fun W hW => ⟨cell_of_block ((hW.block _ (lt_of_block he.out)).trans he.out) 0, hW⟩
            have hw2 : IntKind.i64.wrap ((k : Int) + 1) = ((k + 1 : Nat) : Int) := by rw [IntWalk.i64_in _ (by omega)]; omega
            have hw2' : wrap64 ((k : Int) + 1) = ((k + 1 : Nat) : Int) := by unfold wrap64; omega
            have htk := bs_take l (k + 1)
            have hnn : (0 : Int) ≤ (k : Int) + 1 := by omega
            have hnk : (k : Int) + 1 ≤ (l.length : Int) := by omega
            have Hslt := hid (show l.length ≤ l.length from Nat.le_refl _)
            have hx := bs_drop l (k + 1) l.length (Nat.le_refl _)
            clear ho hc hV hVe hlm hle
            by_cases hbad : l.head? = some 128
            · have hneq : ¬ num V = l.take (k + 1) := fun h => hask.1 h hbad
              have hb : ((bs (num V)).toList == (bs (l.take (k + 1))).toList) = false := by
                rw [beq_eq_false_iff_ne, Ne, bs_listz, bs_listz]; exact hneq
              have HT := hid (fun W hW => Htorn.out W hW (HR.out.symm.trans (RdI.bad hbad)))
              have hb2 : ¬ (bs (num V)).toList = (bs (l.take (k + 1))).toList := by rw [bs_listz, bs_listz]; exact hneq
              clear hask hneq hbad hV64
              generalize num V = q at *
              have hw0 := Hw0.out
              have hc8 := Hc8.out
              have hmod := Hmod.out
              have hw1 := Hw1.out
              clear hmm
              go_wp2
              refine wp_region_held_drew (S := (fun W => W.cell? ⟨b, 0, none⟩ = some (.string (bs l)) ∧ Pure wr W)) (by kernel_rfl) ?_ (fun hHeld => ?_)
              · first | assumption | exact hS.out _ (Below.refl _ wr).drew | exact hS.out _ hp2
              refine tkA 0 ?_
              refine tkA 2 ?_
              refine tkA 3 ?_
              refine tkA 4 ?_
              refine tkA 5 ?_
              refine tkA 6 ?_
              refine tkA 7 ?_
              refine tkA 8 ?_
              refine wpAnyH_ready (rs := [1]) (by kernel_rfl) (by simp) ?_
              refine AllReadyH.cons rfl (fun K hK => ?_) AllReadyH.nil
              (try simp only [List.getElem_toArray, List.getElem_cons_succ, List.getElem_cons_zero])
              go_simp
              go_at_call 124; refine (hnum.out _).mono ?_; rintro e w2 ⟨rfl, hp2⟩; have hp2 := Pure.then_ (show Pure wr _ from (Below.refl _ wr).drew) hp2
              refine hK.out _ _ ?_ (fun hHeld => ?_)
              · first | assumption | exact hS.out _ (Below.refl _ wr).drew | exact hS.out _ hp2
              clear hK K
              try simp only [Act.put, List.setIfInBounds_toArray, List.set_cons_zero, List.set_cons_succ, List.getElem_toArray, List.getElem_cons_succ, List.getElem_cons_zero]
              refine tkA 9 ?_
              refine wpAnyH_done (by kernel_rfl) ?_ _
              obtain ⟨k0, g0, g1, k1⟩ := Hcell.out _ hp2
              have Hp2 := hid hp2
              clear hp2
              go_wp2
              exact bodyPost_ret (v := .int .u64 0) (by simp [results, Tryz.results110, go_sem]) rfl (HT.out _ Hp2.out)
            · have heq : num V = l.take (k + 1) := hask.2 hbad
              have HRR := hid (HR.out.symm.trans (hhit.out hbad))
              have hb : ((bs (num V)).toList == (bs (l.take (k + 1))).toList) = true := by rw [heq]; simp
              clear hask hbad hV64
              have hw0 := Hw0.out
              have hc8 := Hc8.out
              have hmod := Hmod.out
              have hw1 := Hw1.out
              clear hmm
              go_wp2
              refine wp_region_held_drew (S := (fun W => W.cell? ⟨b, 0, none⟩ = some (.string (bs l)) ∧ Pure wr W)) (by kernel_rfl) ?_ (fun hHeld => ?_)
              · first | assumption | exact hS.out _ (Below.refl _ wr).drew | exact hS.out _ hp2
              refine tkA 0 ?_
              refine tkA 2 ?_
              refine tkA 3 ?_
              refine tkA 4 ?_
              refine tkA 5 ?_
              refine tkA 6 ?_
              refine tkA 7 ?_
              refine tkA 8 ?_
              refine wpAnyH_ready (rs := [1]) (by kernel_rfl) (by simp) ?_
              refine AllReadyH.cons rfl (fun K hK => ?_) AllReadyH.nil
              (try simp only [List.getElem_toArray, List.getElem_cons_succ, List.getElem_cons_zero])
              go_simp
              go_at_call 124; refine (hnum.out _).mono ?_; rintro e w2 ⟨rfl, hp2⟩; have hp2 := Pure.then_ (show Pure wr _ from (Below.refl _ wr).drew) hp2
              refine hK.out _ _ ?_ (fun hHeld => ?_)
              · first | assumption | exact hS.out _ (Below.refl _ wr).drew | exact hS.out _ hp2
              clear hK K
              try simp only [Act.put, List.setIfInBounds_toArray, List.set_cons_zero, List.set_cons_succ, List.getElem_toArray, List.getElem_cons_succ, List.getElem_cons_zero]
              refine tkA 9 ?_
              refine wpAnyH_done (by kernel_rfl) ?_ _
              obtain ⟨k0, g0, g1, k1⟩ := Hcell.out _ hp2
              have Hp2 := hid hp2
              clear hp2
              go_wp2
              exact bodyPost_ret (v := .int .u64 V) (by simp [results, Tryz.results110, go_sem]) rfl (Hset.out _ _ V Hp2.out HRR.out)
          · have hcl' : ¬ (c.toNat : Int) < 128 := by omega
            have Hnext := hid (HI.out.next hk1 hk2 ho (by rw [← hc]; exact hcl))
            have Hv := hid (show V = m * 128 + ((l.getD k 0).toNat - 128) from by rw [← hc]; omega)
            have hw2 : wrap64 ((k : Int) + 1) = ((k + 1 : Nat) : Int) := by unfold wrap64; omega
            clear ho hc hV hlm hle hcl
            have hw0 := Hw0.out
            have hc8 := Hc8.out
            have hmod := Hmod.out
            have hw1 := Hw1.out
            clear hmm
            go_wp2
            go_roundw
            case rel => exact ⟨k + 1, V, by go_num, rfl, by rw [Hv.out]; exact Hnext.out, by simp⟩
            case measure => simp [RowKit.intOf]; omega
      · have HT := hid (Htorn.out wr (Below.refl _ _) (HR.out.symm.trans (HI.out.stop hlt)))
        have hxx : (¬ (k : Int) < (l.length : Int)) ∨ ((k : Int) < (l.length : Int) ∧ ¬ (k : Int) < 10) := by omega
        clear hlt
        rcases hxx with hx' | ⟨hx', hx2⟩
        all_goals
          go_wp2
          exact bodyPost_ret (v := .int .u64 0) (by simp [results, Tryz.results110, go_sem]) rfl HT.out
  · show Calls _ _ _ w (RdP 98 b (.int .u64 0) none w)
    go_enter Tryz.func110, Tryz.ntmps110
    go_wp2
    exact bodyPost_ret (v := .int .u64 0) (by simp [results, Tryz.results110, go_sem]) rfl ⟨rfl, ⟨l, true, he.out, rfl⟩, Kept.refl _ _⟩
theorem rz_m (q : Nat) (hq : q < 9223372036854775808) : (q : Int) % 18446744073709551616 = (q : Int) := by omega
theorem rz_u (q : Nat) (hq : q < 9223372036854775808) : IntKind.u64.wrap (q : Int) = (q : Int) := IntWalk.u64_in _ (by omega)
theorem rz_i (q : Nat) (hq : q < 9223372036854775808) : IntKind.i64.wrap (q : Int) = (q : Int) := IntWalk.i64_in _ (by omega)
theorem rz_w (q : Nat) (hq : q < 9223372036854775808) : wrap64 (q : Int) = (q : Int) := by unfold wrap64; omega
theorem RdAt.tear {T : TypeId} {b : Nat} {s : RS} {w0 w : World} (h : RdAt T b s w) (hk : Kept (fun k => k = b) w0 w) : RdAt T b none (w.setCell ⟨b, 1, none⟩ (.bool true)) ∧ Kept (fun k => k = b) w0 (w.setCell ⟨b, 1, none⟩ (.bool true)) := by
  obtain ⟨l, t, e, -⟩ := h
  exact ⟨⟨l, true, RdAt.set1 e true, rfl⟩, Kept.setCell (S := fun k => k = b) (p := ⟨b, 1, none⟩) hk (fun _ => rfl) _⟩
/-- What the walk is told of a reader's two cells. -/
theorem RdAt.parts {T : TypeId} {b : Nat} {s : RS} {w : World} (h : RdAt T b s w) : ∃ (l : List UInt8) (t : Bool), w.cell? ⟨b, 0, none⟩ = some (.string (bs l)) ∧ w.cell? ⟨b, 1, none⟩ = some (.bool t) ∧ w.frozen? ⟨b, 0, none⟩ = false ∧ w.frozen? ⟨b, 1, none⟩ = false ∧ t = s.isNone ∧ (∀ r, s = some r → l = r) := by
  obtain ⟨l, t, e, hs⟩ := h
  refine ⟨l, t, cell_of_block e 0, cell_of_block e 1, free_of_block e 0, free_of_block e 1, ?_, ?_⟩
  · subst hs; cases t <;> rfl
  · subst hs; intro r; cases t <;> simp
theorem RdAt.move {T : TypeId} {b : Nat} {r : List UInt8} {w0 w : World} (h : RdAt T b (some r) w) (hk : Kept (fun k => k = b) w0 w) (u : List UInt8) : RdAt T b (some u) (w.setCell ⟨b, 0, none⟩ (.string (bs u))) ∧ Kept (fun k => k = b) w0 (w.setCell ⟨b, 0, none⟩ (.string (bs u))) := by
  obtain ⟨l, t, e, hs⟩ := h
  have ht : t = false := by cases t; rfl; simp at hs
  subst ht
  exact ⟨⟨u, false, RdAt.set e u, rfl⟩, Kept.setCell (S := fun k => k = b) (p := ⟨b, 0, none⟩) hk (fun _ => rfl) _⟩

set_option maxRecDepth 8000 in
set_option maxHeartbeats 1000000 in
theorem rintr_any (b : Nat) (s : RS) (most : Int) (w : World) (h : RdAt 98 b s w) (hm : most < 9223372036854775808) (hm0 : 0 ≤ most) :
    Calls Tryz.prog 51 #[.pointer (some ⟨b, 0, none⟩), .int .i64 most] w (RdP 98 b (.int .i64 (rdInt most s).1) (rdInt most s).2 w) := by
  have hn := hid (rnumr_any b s w h)
  have hz : (rdNum s).2 = none → (rdNum s).1 = 0 := rdNum_zero s
  have Hi := hid (show rdInt most s = match rdNum s with | (_, none) => (0, none) | (n, some r) => if most < 0 ∨ most < n then (0, none) else ((n : Int), some r) from rfl)
  clear h
  generalize rdInt most s = R at *
  generalize rdNum s = N at *
  obtain ⟨n, s1⟩ := N
  unfold RdP at hn
  dsimp only at hn hz
  obtain ⟨q, rfl⟩ : ∃ q : Nat, most = q := ⟨most.toNat, by omega⟩
  have hq : q < 9223372036854775808 := by omega
  have hneg : ¬ (q : Int) < 0 := by omega
  by_cases hc : (q : Int) < (n : Int)
  · have HR := hid (show R = (0, none) from by rw [Hi.out]; cases s1 <;> simp [hc])
    have hmod := rz_m q hq
    have hwr := rz_u q hq
    clear hm hm0 hz
    go_enter Tryz.func51, Tryz.ntmps51
    go_wp2_with fail
    refine hn.out.mono ?_
    rintro e w1 ⟨rfl, hr1, hk1⟩
    obtain ⟨l, t, k0, k1, f0, f1, -, -⟩ := hr1.parts
    have HT := hid (hr1.tear hk1)
    clear hr1 hk1
    go_wp2
    exact bodyPost_ret (v := .int .i64 0) (by simp [results, Tryz.results51, go_sem]) rfl ⟨by rw [HR.out], by rw [HR.out]; exact HT.out.1, HT.out.2⟩
  · have Hn := hid (show n ≤ q by omega)
    have hwi := rz_i n (by omega)
    have hww := rz_w n (by omega)
    have hmn := rz_m n (by omega)
    have hmod := rz_m q hq
    have hwr := rz_u q hq
    clear hm hm0
    cases s1 with
    | none =>
      have hz0 : n = 0 := hz rfl
      subst hz0
      have HR := hid (show R = (0, none) from Hi.out)
      clear hz
      go_enter Tryz.func51, Tryz.ntmps51
      go_wp2_with fail
      refine hn.out.mono ?_
      rintro e w1 ⟨rfl, hr1, hk1⟩
      obtain ⟨l, t, k0, k1, f0, f1, ht, -⟩ := hr1.parts
      have H1 := hid hr1
      have K1 := hid hk1
      have ht' : t = true := ht
      subst ht'
      clear hr1 hk1 ht
      go_wp2
      exact bodyPost_ret (v := .int .i64 0) (by simp [results, Tryz.results51, go_sem]) rfl ⟨by rw [HR.out], by rw [HR.out]; exact H1.out, K1.out⟩
    | some r =>
      have HR := hid (show R = ((n : Int), some r) from by
        have := Hi.out
        dsimp only at this
        rw [this, if_neg (by rintro (h | h); exact hneg h; exact hc h)])
      clear hz
      go_enter Tryz.func51, Tryz.ntmps51
      go_wp2_with fail
      refine hn.out.mono ?_
      rintro e w1 ⟨rfl, hr1, hk1⟩
      obtain ⟨l, t, k0, k1, f0, f1, ht, -⟩ := hr1.parts
      have H1 := hid hr1
      have K1 := hid hk1
      have ht' : t = false := ht
      subst ht'
      clear hr1 hk1 ht
      go_wp2
      exact bodyPost_ret (v := .int .i64 (n : Nat)) (by simp [results, Tryz.results51, go_sem]) rfl ⟨by rw [HR.out], by rw [HR.out]; exact H1.out, K1.out⟩
set_option maxRecDepth 8000 in
set_option maxHeartbeats 1000000 in
theorem rtextr_any (b : Nat) (s : RS) (most : Int) (w : World) (h : RdAt 98 b s w) (hm : most < 9223372036854775808) (hm0 : 0 ≤ most) :
    Calls Tryz.prog 113 #[.pointer (some ⟨b, 0, none⟩), .int .i64 most] w (RdP 98 b (.string (bs (rdText most s).1)) (rdText most s).2 w) := by
  have hn := hid (rintr_any b s most w h hm hm0)
  have hbd := rdInt_bd most s
  have Hi := hid (show rdText most s = match rdInt most s with | (_, none) => ([], none) | (n, some r) => if r.length < n.toNat then ([], none) else (r.take n.toNat, some (r.drop n.toNat)) from rfl)
  clear h
  generalize rdText most s = R at *
  generalize rdInt most s = N at *
  obtain ⟨n, s1⟩ := N
  unfold RdP at hn
  dsimp only at hn hbd
  cases s1 with
  | none =>
    have HR := hid (show R = ([], none) from Hi.out)
    clear hbd
    go_enter Tryz.func113, Tryz.ntmps113
    go_wp2_with fail
    refine hn.out.mono ?_
    rintro e w1 ⟨rfl, hr1, hk1⟩
    obtain ⟨l, t, k0, k1, f0, f1, ht, -⟩ := hr1.parts
    have HT := hid (hr1.tear hk1)
    have ht' : t = true := ht
    subst ht'
    clear hr1 hk1 ht
    go_wp2
    exact bodyPost_ret (v := .string ⟨#[]⟩) (by simp [results, Tryz.results113, go_sem]) rfl ⟨by rw [HR.out]; rfl, by rw [HR.out]; exact HT.out.1, HT.out.2⟩
  | some r =>
    obtain ⟨k, rfl⟩ : ∃ k : Nat, n = k := ⟨n.toNat, by omega⟩
    have Hi2 := hid Hi.out
    have hsz := bs_size r
    dsimp only at Hi2
    rw [Int.toNat_natCast] at Hi2
    clear hbd
    by_cases hlt : r.length < k
    · have HR := hid (show R = ([], none) from by rw [Hi2.out, if_pos hlt])
      have hlt' : (r.length : Int) < (k : Int) := by omega
      go_enter Tryz.func113, Tryz.ntmps113
      go_wp2_with fail
      refine hn.out.mono ?_
      rintro e w1 ⟨rfl, hr1, hk1⟩
      obtain ⟨l, t, k0, k1, f0, f1, ht, hl⟩ := hr1.parts
      have HT := hid (hr1.tear hk1)
      obtain rfl := hl r rfl
      have ht' : t = false := ht
      subst ht'
      clear hr1 hk1 ht hl
      go_wp2
      exact bodyPost_ret (v := .string ⟨#[]⟩) (by simp [results, Tryz.results113, go_sem]) rfl ⟨by rw [HR.out]; rfl, by rw [HR.out]; exact HT.out.1, HT.out.2⟩
    · have HR := hid (show R = (r.take k, some (r.drop k)) from by rw [Hi2.out, if_neg hlt])
      have hlt' : ¬ (r.length : Int) < (k : Int) := by omega
      have hle' : (k : Int) ≤ (r.length : Int) := by omega
      have hle : k ≤ r.length := by omega
      have hx : ∀ L, r.length ≤ L → (bs r).extract k L = bs (r.drop k) := fun L hL => bs_drop r k L hL
      have hy : (bs r).extract 0 k = bs (r.take k) := bs_take r k
      generalize r.drop k = T at *
      generalize r.take k = U at *
      clear hlt
      go_enter Tryz.func113, Tryz.ntmps113
      go_wp2_with fail
      refine hn.out.mono ?_
      rintro e w1 ⟨rfl, hr1, hk1⟩
      obtain ⟨l, t, k0, k1, f0, f1, ht, hl⟩ := hr1.parts
      have HM := hid (hr1.move hk1 T)
      obtain rfl := hl r rfl
      have ht' : t = false := ht
      subst ht'
      clear hr1 hk1 ht hl
      go_wp2
      exact bodyPost_ret (v := .string (bs U)) (by simp [results, Tryz.results113, go_sem]) rfl ⟨by rw [HR.out], by rw [HR.out]; exact HM.out.1, HM.out.2⟩
def rdE (s : RS) : Int := match s with
  | some [] => 0
  | _ => 10
set_option maxRecDepth 8000 in
set_option maxHeartbeats 1000000 in
theorem rend_any (b : Nat) (s : RS) (w : World) (h : RdAt 98 b s w) :
    Calls Tryz.prog 52 #[.pointer (some ⟨b, 0, none⟩)] w fun e w' => e = .returned (.int .i64 (rdE s)) ∧ w = w' := by
  obtain ⟨l, t, k0, k1, f0, f1, ht, hl⟩ := h.parts
  cases s with
  | none =>
    have ht' : t = true := ht
    subst ht'
    obtain ⟨E, hE⟩ : ∃ E, rdE none = E := ⟨_, rfl⟩
    rw [hE]
    have HE := hid hE
    clear hl h hE ht
    go_enter Tryz.func52, Tryz.ntmps52
    go_wp2
    go_ret
    exact ⟨by rw [← HE.out]; rfl, rfl⟩
  | some r =>
    have ht' : t = false := ht
    subst ht'
    obtain rfl := hl r rfl
    obtain ⟨E, hE⟩ : ∃ E, rdE (some l) = E := ⟨_, rfl⟩
    rw [hE]
    have HE := hid hE
    clear hl h hE ht
    by_cases hn : l = []
    · subst hn
      have hb : (bs ([] : List UInt8)).toList.isEmpty = true := by rw [bs_listz]; rfl
      have hb2 : (bs ([] : List UInt8)).toList = [] := bs_listz []
      go_enter Tryz.func52, Tryz.ntmps52
      go_wp2
      go_ret
      exact ⟨by rw [← HE.out]; rfl, rfl⟩
    · have hb : (bs l).toList.isEmpty = false := by rw [bs_listz]; cases l; exact absurd rfl hn; rfl
      have hb2 : ¬ (bs l).toList = [] := by rw [bs_listz]; exact hn
      have HN := hid (show rdE (some l) = 10 from by cases l; exact absurd rfl hn; rfl)
      clear hn
      go_enter Tryz.func52, Tryz.ntmps52
      go_wp2
      go_ret
      exact ⟨by rw [← HE.out, HN.out]; rfl, rfl⟩
end Go.Proofs.YtdlpnhfgjficgaaGreat
