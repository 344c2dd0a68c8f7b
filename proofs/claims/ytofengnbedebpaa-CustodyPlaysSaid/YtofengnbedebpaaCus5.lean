/- custody: Lacking. -/
import Derived.Test.YtofengnbedebpaaCus4
namespace Go.Proofs.Ytofengnbedebpaa
open Go.RowKit Go.Maps Go.MapKept

/-- Who lack, of the first k owners. -/
def lk (h o : List Int) (k : Nat) : List Int := dd ((o.take k).filter fun x => decide (x ∉ h))
theorem lk_take (h o : List Int) (k : Nat) (hk : k < o.length) : lk h o (k + 1) = if decide (o.getD k 0 ∉ h) && decide (o.getD k 0 ∉ lk h o k) then lk h o k ++ [o.getD k 0] else lk h o k := by
  unfold lk
  rw [take_succ_get o k hk, List.filter_append]
  generalize o.getD k 0 = x
  by_cases h1 : x ∈ h
  · simp [h1]
  · have e : [x].filter (fun x => decide (x ∉ h)) = [x] := by simp [h1]
    rw [e]
    unfold dd
    rw [ddo_append]
    show (if _ then _ else _) = _
    generalize ddo [] ((o.take k).filter fun x => decide (x ∉ h)) = D
    by_cases h2 : x ∈ D
    · simp [h2]
    · rw [if_neg h2]; simp [h1, h2, ddo]
theorem lk_len (h o : List Int) (k : Nat) : (lk h o k).length ≤ o.length := by
  unfold lk
  refine Nat.le_trans (dd_len _) (Nat.le_trans (List.length_filter_le _ _) ?_)
  rw [List.length_take]; omega

set_option maxHeartbeats 1000000 in
theorem lack1_any (base c s mb hb : Nat) (bl : Int → Nat) (S : CuS) (p node : Int) (e : CEnt) (vo : Value) (Y : List Int) (w : World) (h : CuAt w base c S mb hb bl) (he : cfind S p = some e) (hw : (Lit.int .i64 p).wf = true) (hw2 : (Lit.int .i64 node).wf = true)
    (b0 : w.heap[s]? = some (.cells #[.pointer (some ⟨c, 0, none⟩)] 33 (0, 0))) (b1 : w.heap[s + 1]? = some (.cells #[.int .i64 p] 3 (0, 0))) (b2 : w.heap[s + 2]? = some (.cells #[vo] 23 (0, 0))) (hY : Ints w vo Y) :
    Calls Try.prog 32 #[.int .i64 node, .pointer (some ⟨s, 0, none⟩), .pointer (some ⟨s + 1, 0, none⟩), .pointer (some ⟨s + 2, 0, none⟩)] w fun r w' => r = .returned (.bool (decide (node ∉ e.2.2) && decide (node ∉ Y))) ∧ ∃ n, w' = w.drewN n := by
  have k0 : w.cell? ⟨s, 0, none⟩ = some (.pointer (some ⟨c, 0, none⟩)) := cell_of_block b0 0
  have k1 : w.cell? ⟨s + 1, 0, none⟩ = some (.int .i64 p) := cell_of_block b1 0
  have k2 : w.cell? ⟨s + 2, 0, none⟩ = some vo := cell_of_block b2 0
  have k3 : w.cell? ⟨c, 1, none⟩ = some (.map (some hb)) := cell_of_block h.blk 1
  have hH : ∀ n, (Instr.lookup 59 (.map (some hb)) (.int .i64 p) false).run Try.prog (w.drewN n) = .ok (.map (some (bl p))) (w.drewN n) := fun n => (h.pure (pure_drewN w n)).lookH p hw he
  have hS : ∀ n, (Instr.lookup 72 (.map (some (bl p))) (.int .i64 node) false).run Try.prog (w.drewN n) = .ok (.bool (decide (node ∈ e.2.2))) (w.drewN n) := fun n => (h.pure (pure_drewN w n)).lookS p he node hw2
  have hc := hid (fun n => (contains_any vo Y node (w.drewN n) (Row.pure hY (pure_drewN w n))).mono (R' := fun r w' => r = .returned (.bool (decide (node ∈ Y))) ∧ ∃ m, w' = (w.drewN n).drewN m) fun _ _ ⟨h1, h2⟩ => ⟨h1, 0, h2.symm⟩)
  obtain ⟨a, cap, rfl⟩ := hY.shape
  have e1 : (decide (node ∉ e.2.2) && decide (node ∉ Y)) = (!decide (node ∈ e.2.2) && !decide (node ∈ Y)) := by simp
  rw [e1]
  clear h he b0 b1 b2 hY e1
  generalize bl p = B at *
  generalize decide (node ∈ e.2.2) = D at *
  generalize decide (node ∈ Y) = M at *
  cases D with
  | true =>
    go_enter Try.func32, Try.ntmps32
    go_wp2_with fail
    go_quiet (fail)
    go_wp2
    go_ret
    exact ⟨rfl, _, rfl⟩
  | false =>
    go_enter Try.func32, Try.ntmps32
    go_wp2_with fail
    go_quiet ((go_at_call 33; exact Calls.quiet_of (hc.out _)))
    go_wp2
    go_ret
    exact ⟨rfl, _, rfl⟩

set_option maxRecDepth 8000 in
set_option maxHeartbeats 2000000 in
theorem culack_any (base c : Nat) (S : CuS) (p : Int) (v : Value) (o : List Int) (w : World) (h : Cu w base c S) (hv : Ints w v o) (hw : (Lit.int .i64 p).wf = true) (hwo : AllWf o) (hl : o.length ≤ 1000) :
    Calls Try.prog 15 #[.pointer (some ⟨c, 0, none⟩), .int .i64 p, v] w fun r w' => ∃ v', r = .returned v' ∧ w'.ownsRow w.heap.size 3 1 v' (clack S p o).length ((clack S p o).map (Value.int .i64)) ∧ Pure w w' := by
  obtain ⟨mb, hb, bl, h⟩ := h
  obtain ⟨av, cv, rfl⟩ := hv.shape
  have ltv := hid (Row.lt hv)
  obtain ⟨wz, hwz⟩ : ∃ wz, wz = (w.alloc (.cells #[.pointer (some ⟨c, 0, none⟩)] 33)).alloc (.cells #[.int .i64 p] 3) := ⟨_, rfl⟩
  have Hwz := hid (show Pure w wz from by rw [hwz]; exact ((Below.refl _ _).alloc (Nat.le_refl _) _).alloc (by simp) _)
  have hsz : wz.heap.size = w.heap.size + 2 := by rw [hwz]; simp
  have b0 : wz.heap[w.heap.size]? = some (.cells #[.pointer (some ⟨c, 0, none⟩)] 33 (0, 0)) := by rw [hwz]; exact block_alloc_old (block_alloc_new _ _) _
  have b1 : wz.heap[w.heap.size + 1]? = some (.cells #[.int .i64 p] 3 (0, 0)) := by
    rw [hwz]
    have := block_alloc_new (w.alloc (.cells #[.pointer (some ⟨c, 0, none⟩)] 33)) (.cells #[.int .i64 p] 3)
    simpa using this
  have hmf : ∀ (fn : Fn) (first cap : Array Value) (w : World), (Instr.makeFunc fn first cap).run Try.prog w = .ok (.func fn first cap) w := fun _ _ _ _ => rfl
  have k0 : wz.cell? ⟨w.heap.size, 0, none⟩ = some (.pointer (some ⟨c, 0, none⟩)) := cell_of_block b0 0
  have k1 : wz.cell? ⟨w.heap.size + 1, 0, none⟩ = some (.int .i64 p) := cell_of_block b1 0
  have k2 : wz.cell? ⟨c, 0, none⟩ = some (.map (some mb)) := cell_of_block (h.pure Hwz.out).blk 0
  have hlk : ∀ n, (Instr.lookup 58 (.map (some mb)) (.int .i64 p) true).run Try.prog (wz.drewN n) = .ok (.tuple #[.string (bs (cmark S p)), .bool (cfind S p).isSome]) (wz.drewN n) := fun n => ((h.pure Hwz.out).pure (pure_drewN wz n)).lookM2 p hw
  have H := hid h
  have B0 := hid b0
  have B1 := hid b1
  have Hz := hid hwz
  unfold clack
  clear h b0 b1
  cases he : cfind S p with
  | none =>
    rw [he] at hlk
    dsimp only [Option.isSome_none] at hlk ⊢
    clear he
    generalize bs (cmark S p) = R at *
    have Hlk := hid hlk
    rw [hwz] at k0 k1 k2
    clear hwz hlk
    go_enter Try.func15, Try.ntmps15
    go_wp2_with fail
    go_step3
    go_wp2_with fail
    rw [← Hz.out]
    clear k0 k1 k2
    have k0 : wz.cell? ⟨w.heap.size, 0, none⟩ = some (.pointer (some ⟨c, 0, none⟩)) := cell_of_block B0.out 0
    have k1 : wz.cell? ⟨w.heap.size + 1, 0, none⟩ = some (.int .i64 p) := cell_of_block B1.out 0
    have k2 : wz.cell? ⟨c, 0, none⟩ = some (.map (some mb)) := cell_of_block (H.out.pure Hwz.out).blk 0
    have hlk := Hlk.out
    go_quiet (fail)
    go_wp2
    rw [Exit.noGoto_ret]
    go_ret
    exact ⟨_, rfl, World.ownsRow_nil _ _ _ _, Hwz.out.then_ (pure_drewN _ _)⟩
  | some e =>
    rw [he] at hlk
    dsimp only [Option.isSome_some] at hlk ⊢
    have He := hid he
    clear he
    generalize bs (cmark S p) = R at *
    have Hlk := hid hlk
    rw [hwz] at k0 k1 k2
    clear hwz hlk
    go_enter Try.func15, Try.ntmps15
    go_wp2_with fail
    go_step3
    go_wp2_with fail
    rw [← Hz.out]
    clear k0 k1 k2
    have k0 : wz.cell? ⟨w.heap.size, 0, none⟩ = some (.pointer (some ⟨c, 0, none⟩)) := cell_of_block B0.out 0
    have k1 : wz.cell? ⟨w.heap.size + 1, 0, none⟩ = some (.int .i64 p) := cell_of_block B1.out 0
    have k2 : wz.cell? ⟨c, 0, none⟩ = some (.map (some mb)) := cell_of_block (H.out.pure Hwz.out).blk 0
    have hlk := Hlk.out
    go_quiet (fail)
    clear k0 k1 k2 hlk Hlk
    go_wp2_with fail
    obtain ⟨wy, hwy⟩ : ∃ wy, wy = (wz.drewN nq).alloc (.cells #[.slice none 0 0] 23) := ⟨_, rfl⟩
    have Hzy := hid (show Pure wz wy from by rw [hwy]; exact (pure_drewN wz nq).then_ ((Below.refl _ _).alloc (Nat.le_refl _) _))
    have hby : wy.heap[w.heap.size + 2]? = some (.cells #[.slice none 0 0] 23 (0, 0)) := by
      rw [hwy]
      have := block_alloc_new (wz.drewN nq) (.cells #[.slice none 0 0] 23)
      have e : (wz.drewN nq).heap.size = w.heap.size + 2 := hsz
      rw [e] at this
      exact this
    have hsy : wy.heap.size = w.heap.size + 3 := by rw [hwy]; simp; omega
    rw [← hwy]
    have Hby := hid hby
    clear hwy hby
    have Hpw : Hid (∀ W, Kept (fun k => k = w.heap.size + 2) wy W → Pure w W) := fun W hW => Below.trans (Hwz.out.then_ Hzy.out) ((hW.mono (T := fun k => w.heap.size ≤ k) (fun k _ e => by omega)).below (by omega) (fun k hk e => by omega))
    have HBs : Hid (∀ W, Kept (fun k => k = w.heap.size + 2) wy W → W.heap[w.heap.size]? = some (.cells #[.pointer (some ⟨c, 0, none⟩)] 33 (0, 0)) ∧ W.heap[w.heap.size + 1]? = some (.cells #[.int .i64 p] 3 (0, 0))) := fun W hW =>
      ⟨(hW.block _ (by omega) (by omega)).trans ((Hzy.out.block _ (lt_of_block B0.out)).trans B0.out), (hW.block _ (by omega) (by omega)).trans ((Hzy.out.block _ (lt_of_block B1.out)).trans B1.out)⟩
    go_step3
    go_wp2
    go_loopw [12, 29] (fun _ i wr => ∃ (k : Nat) (vo : Value), k ≤ o.length ∧ i = .int .i64 k ∧ wr.heap[w.heap.size + 2]? = some (.cells #[vo] 23 (0, 0)) ∧ wr.ownsRow (w.heap.size + 3) 3 1 vo (lk e.2.2 o k).length ((lk e.2.2 o k).map (Value.int .i64)) ∧ Kept (fun k => k = w.heap.size + 2) wy wr) (fun _ i _ => o.length - (RowKit.intOf i).toNat)
    case atStart => exact ⟨0, _, Nat.zero_le _, rfl, Hby.out, World.ownsRow_nil _ _ _ _, Kept.refl _ _⟩
    case round =>
      obtain ⟨k, vo, hk, rfl, hbo, hown, hkp⟩ := hrel
      by_cases hlt : k < o.length
      · have hlt' : (k : Int) < (o.length : Int) := by omega
        obtain ⟨bv, ov, rfl, hbv, hcx⟩ := ints_get_j (show Ints wr (.slice av o.length cv) o from Row.pure hv (Hpw.out wr hkp)) hlt
        have hstep := hid (lk_take e.2.2 o k hlt)
        have hll := lk_len e.2.2 o k
        have hwx := hwo.get hlt
        have hc1 := hid (fun (x : Int) (hx : (Lit.int .i64 x).wf = true) => lack1_any base c w.heap.size mb hb bl S p x e vo (lk e.2.2 o k) wr (H.out.pure (Hpw.out wr hkp)) He.out hw hx (HBs.out wr hkp).1 (HBs.out wr hkp).2 hbo (Row.of_own hown))
        obtain ⟨p3, q3, rfl⟩ := own_shape_d hown
        generalize lk e.2.2 o k = Y at *
        generalize o.getD k 0 = x at *
        have Hc1 := hid (hc1.out x hwx)
        have Hown := hid hown
        have Hkp := hid hkp
        have Hbo := hid hbo
        clear hc1 hown hkp hbo
        cases hL : (decide (x ∉ e.2.2) && decide (x ∉ Y)) with
        | false =>
          rw [hL] at Hc1 hstep
          clear hL
          go_wp2_with (go_at_call 32; refine Hc1.out.mono ?_; rintro r w2 ⟨rfl, n2, rfl⟩)
          go_roundw
          case rel => exact ⟨k + 1, _, by omega, by go_num, Hbo.out, by rw [hstep.out]; exact own_pure Hown.out (pure_drewN _ _), Hkp.out.trans (pure_drewN _ _).kept⟩
          case measure => simp [RowKit.intOf]; omega
        | true =>
          rw [hL] at Hc1 hstep
          clear hL
          go_wp2_with fail
          refine Hc1.out.mono ?_
          rintro r w2 ⟨rfl, n2, hw2e⟩
          have hk2 : Kept (fun k => k = w.heap.size + 2) wy w2 := by rw [hw2e]; exact Hkp.out.trans (pure_drewN _ _).kept
          have hbo2 : w2.heap[w.heap.size + 2]? = some (.cells #[.slice p3 Y.length q3] 23 (0, 0)) := by rw [hw2e]; exact Hbo.out
          have Hown2 := hid (show w2.ownsRow (w.heap.size + 3) 3 1 (.slice p3 Y.length q3) Y.length (Y.map (Value.int .i64)) by rw [hw2e]; exact own_pure Hown.out (pure_drewN _ _))
          have q0 : w2.cell? ⟨w.heap.size + 2, 0, none⟩ = some (.slice p3 Y.length q3) := cell_of_block hbo2 0
          have Hk2 := hid hk2
          have Hbo2 := hid hbo2
          have b4 : w.heap.size + 3 ≤ (w2.alloc (.cells #[.int .i64 x] 3)).heap.size := by have := hk2.size; simp; omega
          clear hk2 hbo2 hw2e
          go_wp2_with (at_builtin; refine wpList_append_ints1 rfl _ _ rfl (w.heap.size + 3) _ Y Y.length rfl (Hown2.out.alloc _) _ [x] 1 rfl (ints_lit1 w2 x) (by omega) b4 ?_)
          intro v3 w3 hown3 hg3
          have hne : w.heap.size + 2 < w2.heap.size := lt_of_block Hbo2.out
          have hb3 : w3.heap[w.heap.size + 2]? = some (.cells #[.slice p3 Y.length q3] 23 (0, 0)) :=
            (hg3.block _ (by simp; omega) (fun e => own_ne Hown2.out (show w.heap.size + 2 < w.heap.size + 3 by omega) e.symm)).trans (block_alloc_old Hbo2.out _)
          have r0 : w3.cell? ⟨w.heap.size + 2, 0, none⟩ = some (.slice p3 Y.length q3) := cell_of_block hb3 0
          have r1 : w3.frozen? ⟨w.heap.size + 2, 0, none⟩ = false := free_of_block hb3 0
          have hk3 : Kept (fun k => k = w.heap.size + 2) wy w3 := (Hk2.out.alloc _).grown hg3 (fun k hk hlt => by have := (Hown2.out.lt k hk).1; omega)
          obtain ⟨p4, q4, rfl⟩ := own_shape_d hown3
          have hfin := hid (show (w3.setCell ⟨w.heap.size + 2, 0, none⟩ (.slice p4 (Y.length + 1) q4)).heap[w.heap.size + 2]? = some (.cells #[.slice p4 (Y.length + 1) q4] 23 (0, 0)) ∧ (w3.setCell ⟨w.heap.size + 2, 0, none⟩ (.slice p4 (Y.length + 1) q4)).ownsRow (w.heap.size + 3) 3 1 (.slice p4 (Y.length + 1) q4) (Y ++ [x]).length ((Y ++ [x]).map (Value.int .i64)) ∧ Kept (fun k => k = w.heap.size + 2) wy (w3.setCell ⟨w.heap.size + 2, 0, none⟩ (.slice p4 (Y.length + 1) q4)) from
            ⟨by have := block_setCell hb3 0 (.slice p4 (Y.length + 1) q4); simpa using this, own_setCell (by rw [List.length_append, List.map_append]; exact hown3) ⟨w.heap.size + 2, 0, none⟩ (by show w.heap.size + 2 < w.heap.size + 3; omega) _, Kept.setCell (S := fun k => k = w.heap.size + 2) hk3 (p := ⟨w.heap.size + 2, 0, none⟩) (fun _ => rfl) _⟩)
          clear hown3 hg3 hb3 hk3 q0
          go_wp2
          go_roundw
          case rel => exact ⟨k + 1, _, by omega, by go_num, hfin.out.1, by rw [hstep.out]; exact hfin.out.2.1, hfin.out.2.2⟩
          case measure => simp [RowKit.intOf]; omega
      · have hlt' : ¬ (k : Int) < (o.length : Int) := by omega
        have hlk : lk e.2.2 o k = dd (o.filter fun x => decide (x ∉ e.2.2)) := by unfold lk; rw [List.take_of_length_le (by omega)]
        rw [hlk] at hown
        obtain ⟨p3, q3, rfl⟩ := own_shape_d hown
        have q0 : wr.cell? ⟨w.heap.size + 2, 0, none⟩ = some (.slice p3 (dd (o.filter fun x => decide (x ∉ e.2.2))).length q3) := cell_of_block hbo 0
        have Hown := hid (own_mono hown (show w.heap.size ≤ w.heap.size + 3 by omega))
        have Hp := hid (Hpw.out wr hkp)
        clear hown hkp hbo hlk
        generalize hD : dd (o.filter fun x => decide (x ∉ e.2.2)) = D at *
        have HD := hid hD
        clear hD
        go_wp2
        go_ret
        exact ⟨_, rfl, by rw [HD.out]; exact Hown.out, Hp.out⟩
end Go.Proofs.Ytofengnbedebpaa
