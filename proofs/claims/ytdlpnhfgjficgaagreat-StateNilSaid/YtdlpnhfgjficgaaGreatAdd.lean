/- ref04: Add. -/
import Derived.Test.YtdlpnhfgjficgaaGreatJoin
namespace Go.Proofs.YtdlpnhfgjficgaaGreat
open Go.RowKit Go.Maps

set_option maxRecDepth 8000 in
set_option maxHeartbeats 4000000 in
theorem radd_any (va vb v : Value) (aB aC l : List Dot) (w : World) (h1 : Dots w va aB) (h2 : Dots w vb aC) (hr : Dots w v l) (hl : aB.length + aC.length + l.length ≤ 1000) (hb1 : ∀ d ∈ aB, 0 ≤ d.2 ∧ d.2 ≤ 1152921504606846976) :
    Calls Tryz.prog 104 #[.agg #[va, vb], v] w fun r w' => ∃ v0 v1, r = .returned (.agg #[v0, v1]) ∧ Dots w' v0 (cjoin aB aC [] (dsort (l.filter dchk))).1 ∧ Dots w' v1 (cjoin aB aC [] (dsort (l.filter dchk))).2 ∧ Pure w w' ∧ (∀ k, v0.rb = some k → w.heap.size ≤ k) ∧ (∀ k, v1.rb = some k → w.heap.size ≤ k) := by
  have lt1 := Row.lt h1
  have lt2 := Row.lt h2
  have Hb1 := hid hb1
  obtain ⟨a, cap, rfl⟩ := hr.shape
  obtain ⟨aa, ca, rfl⟩ := h1.shape
  obtain ⟨ab, cb, rfl⟩ := h2.shape
  obtain ⟨i0, hi, hz0, hz1, hz2⟩ := info_parts infoDot
  obtain ⟨wz, hwz⟩ : ∃ wz, wz = ((w.alloc (.cells #[.slice aa aB.length ca, .slice ab aC.length cb] 32)).alloc (.cells #[.slice none 0 0, .slice none 0 0] 32)).alloc (.cells #[.slice none 0 0, .slice none 0 0] 32) := ⟨_, rfl⟩
  have Hwz := hid (show Pure w wz from by rw [hwz]; exact (((Below.refl _ _).alloc (Nat.le_refl _) _).alloc (by simp) _).alloc (by simp; omega) _)
  have hszz : wz.heap.size = w.heap.size + 3 := by rw [hwz]; simp
  have hmore : wz.heap[w.heap.size + 2]? = some (.cells #[.slice none 0 0, .slice none 0 0] 32 (0, 0)) := by
    rw [hwz]
    have := block_alloc_new ((w.alloc (.cells #[.slice aa aB.length ca, .slice ab aC.length cb] 32)).alloc (.cells #[.slice none 0 0, .slice none 0 0] 32)) (.cells #[.slice none 0 0, .slice none 0 0] 32)
    simpa using this
  have Hl := hid (show Dots wz (.slice a l.length cap) l from Row.pure hr Hwz.out)
  have hlt0 := hid (Row.lt hr)
  have HA := hid (show Dots wz (.slice aa aB.length ca) aB from Row.pure h1 Hwz.out)
  have HB := hid (show Dots wz (.slice ab aC.length cb) aC from Row.pure h2 Hwz.out)
  have Hlt1 := hid lt1
  have Hlt2 := hid lt2
  have hbox : Hid (wz.heap[w.heap.size]? = some (.cells #[.slice aa aB.length ca, .slice ab aC.length cb] 32 (0, 0)) ∧ wz.heap[w.heap.size + 1]? = some (.cells #[.slice none 0 0, .slice none 0 0] 32 (0, 0))) := by
    show wz.heap[w.heap.size]? = _ ∧ wz.heap[w.heap.size + 1]? = _
    rw [hwz]
    refine ⟨block_alloc_old (block_alloc_old (block_alloc_new _ _) _) _, ?_⟩
    have := block_alloc_new (w.alloc (.cells #[.slice aa aB.length ca, .slice ab aC.length cb] 32)) (.cells #[.slice none 0 0, .slice none 0 0] 32)
    rw [World.size_alloc] at this
    exact block_alloc_old this _
  clear hr h1 h2 lt1 lt2 hb1
  have hchk := hid (fun d W => rchk_any d W)
  go_enter Tryz.func104, Tryz.ntmps104
  go_wp2
  rw [← hwz]
  clear hwz
  go_loopw [6] (fun i wr => ∃ (k : Nat) (voc : Value), k ≤ l.length ∧ i = .int .i64 k ∧ wr.heap[w.heap.size + 2]? = some (.cells #[.slice none 0 0, voc] 32 (0, 0)) ∧ wr.ownsRow (w.heap.size + 3) 28 2 voc ((l.take k).filter dchk).length (dvs ((l.take k).filter dchk)) ∧ Kept (fun k => k = w.heap.size + 2) wz wr) (fun i _ => l.length - (RowKit.intOf i).toNat)
  case atStart => exact ⟨0, .slice none 0 0, Nat.zero_le _, rfl, hmore, World.ownsRow_nil _ _ _ _, Kept.refl _ _⟩
  case round =>
    obtain ⟨k, voc, hk, rfl, hm, hown, hp⟩ := hrel
    by_cases hlt : k < l.length
    · obtain ⟨b, off, rfl, hb, c0, c1⟩ := Dots.get (show Dots wr (.slice a l.length cap) l from Row.kept Hl.out hp (fun k hk e => by have := hlt0.out k hk; omega)) hlt
      have hlt' : (k : Int) < (l.length : Int) := by omega
      have Hstep := hid (chk_take l k hlt)
      have hfl : ((l.take k).filter dchk).length ≤ 1000 := Nat.le_trans (List.length_filter_le _ _) (by rw [List.length_take]; omega)
      generalize (l.take k).filter dchk = Y at *
      obtain ⟨a3, c3, rfl⟩ := own_shape_d hown
      have hc := hid (hchk.out (l.getD k (0, 0)) wr)
      generalize l.getD k (0, 0) = z at *
      obtain ⟨z1, z2⟩ := z
      dsimp only at c0 c1
      unfold dv at hc
      dsimp only at hc
      cases hz : dchk (z1, z2) with
      | true =>
        rw [hz] at hc
        have Hz := hid hz
        clear hz
        go_wp2_with (go_at_call 105; refine hc.out.mono ?_; rintro e w2 ⟨rfl, hp2⟩; have Hp2 := hid hp2)
        have m2 : w2.heap[w.heap.size + 2]? = some (.cells #[.slice none 0 0, .slice a3 Y.length c3] 32 (0, 0)) := (hp2.block _ (lt_of_block hm)).trans hm
        have e1 : w2.cell? ⟨w.heap.size + 2, 1, none⟩ = some (.slice a3 Y.length c3) := cell_of_block m2 1
        have e2 : w2.frozen? ⟨w.heap.size + 2, 1, none⟩ = false := free_of_block m2 1
        have d0 : w2.cell? ⟨b, off + k * 2, none⟩ = some (.int .i64 z1) := (hp2.cell hb).trans c0
        have d1 : w2.cell? ⟨b, off + k * 2 + 1, none⟩ = some (.int .i64 z2) := (hp2.cell hb).trans c1
        have hb2 : b < w2.heap.size := Nat.lt_of_lt_of_le hb hp2.size
        have hm2 : w.heap.size + 2 < w2.heap.size := lt_of_block m2
        have Hown := hid (own_pure hown hp2)
        have Hm := hid m2
        clear hp2 c0 c1 hown hm m2
        have Hp := hid hp
        have hmk : Hid (∀ w' : World, (w2.drew.alloc (.cells #[.int .i64 z1, .int .i64 z2] 28)).grownBy w' (Value.slice a3 Y.length c3).ownBlock → w'.heap[w.heap.size + 1 + 1]? = some (.cells #[.slice none 0 0, .slice a3 Y.length c3] 32 (0, 0)) ∧ Kept (fun k => k = w.heap.size + 2) wz w') := fun w' hg => by
          have h1 := hg.block (w.heap.size + 2) (by simp; omega) (fun e => own_ne Hown.out (show w.heap.size + 2 < w.heap.size + 3 by omega) e.symm)
          refine ⟨h1.trans (block_alloc_old Hm.out _), ?_⟩
          exact (((Hp.out.trans Hp2.out.kept).drew).alloc _).grown hg (fun k hk hlt => by have := (Hown.out.lt k hk).1; omega)
        clear hp
        go_wp2_with fail
        go_region_law (refine step_append_own rfl (.tmp 21) (.tmp 26) 30 rfl (w.heap.size + 3) 28 i0 (.agg #[.int .i64 0, .int .i64 0]) 2 16 Tryz.underlying30 hi hz0 hz1 hz2 rfl (by decide) (.slice a3 Y.length c3) Y.length (dvs Y) (by simp [Act.eval]) (World.ownsRow.alloc Hown.out _) ⟨w2.heap.size, 0, none⟩ 1 1 (dvs [(z1, z2)]) (by simp [Act.eval]) rfl (dots_lit_cells _ z1 z2) (dvs_one _) (by unfold maxLen; omega) (by omega) (by simp; omega) ?_; intro v' w' hown' hg'; obtain ⟨a9, c9, rfl⟩ := own_shape_d hown'; obtain ⟨hm9, hp9⟩ := hmk.out w' hg'; have s1 : w'.cell? ⟨w.heap.size + 1 + 1, 1, none⟩ = some (.slice a3 Y.length c3) := cell_of_block hm9 1; have s2 : w'.frozen? ⟨w.heap.size + 1 + 1, 1, none⟩ = false := free_of_block hm9 1; have Hm9 := hid hm9; have Hp9 := hid hp9; have Hown9 := hid hown'; clear hown' hg' hm9 hp9)
        all_goals
          go_wp2
          go_roundw
          (case rel =>
            refine ⟨k + 1, .slice a9 (Y.length + 1) c9, by omega, by go_num, ?_, ?_, ?_⟩
            · have := block_setCell Hm9.out 1 (.slice a9 (Y.length + 1) c9); simpa using this
            · rw [Hstep.out, Hz.out]
              have h := ownsRow_setCell_below Hown9.out (a := ⟨w.heap.size + 1 + 1, 1, none⟩) (by show w.heap.size + 1 + 1 < w.heap.size + 3; omega) (.slice a9 (Y.length + 1) c9)
              rw [← dvs_append] at h
              simpa using h
            · exact Hp9.out.setCell (fun _ => by show w.heap.size + 1 + 1 = w.heap.size + 2; omega) _)
          (case measure => simp [RowKit.intOf]; omega)
      | false =>
        rw [hz] at hc
        have Hz := hid hz
        have Hown := hid hown
        have Hm := hid hm
        have Hp := hid hp
        clear hz hown hm hp
        go_wp2_with (go_at_call 105; refine hc.out.mono ?_; rintro e w2 ⟨rfl, hp2⟩; have Hp2 := hid hp2; clear hp2)
        go_roundw
        case rel => exact ⟨k + 1, .slice a3 Y.length c3, by omega, by go_num, (Hp2.out.block _ (lt_of_block Hm.out)).trans Hm.out, by rw [Hstep.out, Hz.out]; simpa using own_pure Hown.out Hp2.out, Hp.out.trans Hp2.out.kept⟩
        case measure => simp [RowKit.intOf]; omega
    · have hlt' : ¬ (k : Int) < (l.length : Int) := by omega
      rw [List.take_of_length_le (by omega)] at hown
      have hDl : (l.filter dchk).length ≤ l.length := List.length_filter_le _ _
      generalize hDe : l.filter dchk = D at *
      have HDe := hid hDe
      clear hDe
      have hs := hid (rsort_any _ D wr (Row.of_own hown) (by omega))
      have hdl := dsort_len D
      obtain ⟨a3, c3, rfl⟩ := own_shape_d hown
      have m0 : wr.cell? ⟨w.heap.size + 1 + 1, 1, none⟩ = some (.slice a3 D.length c3) := cell_of_block hm 1
      have Hm := hid hm
      have Hp := hid hp
      clear hown hm hp
      go_wp2_with fail
      refine hs.out.mono ?_
      rintro e w2 ⟨v2, rfl, hown2, hp2⟩
      have hm2 : w2.heap[w.heap.size + 2]? = some (.cells #[.slice none 0 0, .slice a3 D.length c3] 32 (0, 0)) := (hp2.block _ (lt_of_block Hm.out)).trans Hm.out
      have m1 : w2.cell? ⟨w.heap.size + 1 + 1, 1, none⟩ = some (.slice a3 D.length c3) := cell_of_block hm2 1
      have m2 : w2.frozen? ⟨w.heap.size + 1 + 1, 1, none⟩ = false := free_of_block hm2 1
      have m3 : w2.cell? ⟨w.heap.size + 1 + 1, 0, none⟩ = some (.slice none 0 0) := cell_of_block hm2 0
      have hk2 : Kept (fun k => k = w.heap.size + 2) wz w2 := Hp.out.trans hp2.kept
      have hb0 : w2.heap[w.heap.size]? = some (.cells #[.slice aa aB.length ca, .slice ab aC.length cb] 32 (0, 0)) := (hk2.block _ (by omega) (by omega)).trans hbox.out.1
      have n0 : w2.cell? ⟨w.heap.size, 0, none⟩ = some (.slice aa aB.length ca) := cell_of_block hb0 0
      have n1 : w2.cell? ⟨w.heap.size, 1, none⟩ = some (.slice ab aC.length cb) := cell_of_block hb0 1
      obtain ⟨p2, k2, rfl⟩ := own_shape_d hown2
      obtain ⟨w3, hw3⟩ : ∃ w3, w3 = w2.setCell ⟨w.heap.size + 1 + 1, 1, none⟩ (.slice p2 (dsort D).length k2) := ⟨_, rfl⟩
      have hsr : w.heap.size + 3 ≤ wr.heap.size := by have := Hp.out.size; omega
      have hk3 : Kept (fun k => k = w.heap.size + 2) wz w3 := by rw [hw3]; exact hk2.setCell (fun _ => by show w.heap.size + 1 + 1 = w.heap.size + 2; omega) _
      have d3 : Dots w3 (.slice p2 (dsort D).length k2) (dsort D) := by rw [hw3]; exact Row.of_own (own_setCell hown2 _ (by show w.heap.size + 1 + 1 < wr.heap.size; omega) _)
      have hj := hid (rjoin_any _ _ (.slice none 0 0) _ aB aC [] (dsort D) w3 (show Dots w3 (.slice aa aB.length ca) aB from Row.kept HA.out hk3 (fun k hk e => by have := Hlt1.out k hk; omega)) (show Dots w3 (.slice ab aC.length cb) aC from Row.kept HB.out hk3 (fun k hk e => by have := Hlt2.out k hk; omega)) (Row.nil w3 2) d3 (by simp; omega) Hb1.out (by simp))
      have hres3 : Hid (w3.heap[w.heap.size + 1]? = some (.cells #[.slice none 0 0, .slice none 0 0] 32 (0, 0))) := (hk3.block _ (by omega) (by omega)).trans hbox.out.2
      have Hk3 := hid hk3
      clear hown2 hp2 hm2 hk2 hb0 hk3 d3 m0
      go_wp2_with fail
      rw [← hw3]
      clear hw3
      refine hj.out.mono ?_
      rintro e w4 ⟨v0, v1, rfl, hd0, hd1, hp4, hf0, hf1⟩
      have hres := (hp4.block _ (lt_of_block hres3.out)).trans hres3.out
      have r0 : w4.cell? ⟨w.heap.size + 1, 0, none⟩ = some (.slice none 0 0) := cell_of_block hres 0
      have r1 : w4.cell? ⟨w.heap.size + 1, 1, none⟩ = some (.slice none 0 0) := cell_of_block hres 1
      have r2 : w4.frozen? ⟨w.heap.size + 1, 0, none⟩ = false := free_of_block hres 0
      have r3 : w4.frozen? ⟨w.heap.size + 1, 1, none⟩ = false := free_of_block hres 1
      obtain ⟨p0, k0, rfl⟩ := hd0.shape
      obtain ⟨p1, k1, rfl⟩ := hd1.shape
      generalize hCe : cjoin aB aC [] (dsort D) = C at *
      have HCe := hid hCe
      clear hCe
      have t0 : (w4.setCell ⟨w.heap.size + 1, 0, none⟩ (.slice p0 C.1.length k0)).cell? ⟨w.heap.size + 1, 0, none⟩ = some (.slice p0 C.1.length k0) := by
        rw [cell_of_block (block_setCell hres 0 (.slice p0 C.1.length k0)) 0]; simp
      have t1 : ((w4.setCell ⟨w.heap.size + 1, 0, none⟩ (.slice p0 C.1.length k0)).setCell ⟨w.heap.size + 1, 1, none⟩ (.slice p1 C.2.length k1)).cell? ⟨w.heap.size + 1, 1, none⟩ = some (.slice p1 C.2.length k1) := by
        rw [cell_of_block (block_setCell (block_setCell hres 0 (.slice p0 C.1.length k0)) 1 (.slice p1 C.2.length k1)) 1]; simp
      have T0 := hid t0
      have T1 := hid t1
      have hkf : Kept (fun k => k = w.heap.size + 1) w4 ((w4.setCell ⟨w.heap.size + 1, 0, none⟩ (.slice p0 C.1.length k0)).setCell ⟨w.heap.size + 1, 1, none⟩ (.slice p1 C.2.length k1)) := (kept_set w4 _ 0 _).trans (kept_set _ _ 1 _)
      have hs3 : w.heap.size + 3 ≤ w3.heap.size := by have := Hk3.out.size; omega
      have hfin : Hid (Dots ((w4.setCell ⟨w.heap.size + 1, 0, none⟩ (.slice p0 C.1.length k0)).setCell ⟨w.heap.size + 1, 1, none⟩ (.slice p1 C.2.length k1)) (.slice p0 C.1.length k0) C.1 ∧ Dots ((w4.setCell ⟨w.heap.size + 1, 0, none⟩ (.slice p0 C.1.length k0)).setCell ⟨w.heap.size + 1, 1, none⟩ (.slice p1 C.2.length k1)) (.slice p1 C.2.length k1) C.2 ∧ Pure w ((w4.setCell ⟨w.heap.size + 1, 0, none⟩ (.slice p0 C.1.length k0)).setCell ⟨w.heap.size + 1, 1, none⟩ (.slice p1 C.2.length k1)) ∧ (∀ k, (Value.slice p0 C.1.length k0).rb = some k → w.heap.size ≤ k) ∧ (∀ k, (Value.slice p1 C.2.length k1).rb = some k → w.heap.size ≤ k)) := by
        refine ⟨Row.kept hd0 hkf (fun k hk e => by have := hf0 k hk; omega), Row.kept hd1 hkf (fun k hk e => by have := hf1 k hk; omega), ?_, fun k hk => by have := hf0 k hk; omega, fun k hk => by have := hf1 k hk; omega⟩
        have q1 : Kept (fun k => w.heap.size ≤ k) wz w4 := (Hk3.out.mono (fun k _ e => by omega)).trans hp4.kept
        have q2 : Kept (fun k => w.heap.size ≤ k) wz ((w4.setCell ⟨w.heap.size + 1, 0, none⟩ (.slice p0 C.1.length k0)).setCell ⟨w.heap.size + 1, 1, none⟩ (.slice p1 C.2.length k1)) := q1.trans (hkf.mono (fun k _ e => by omega))
        exact Below.trans Hwz.out (q2.below Hwz.out.size (fun k hk e => by omega))
      clear hd0 hd1 hp4 hf0 hf1 hres t0 t1 hkf
      go_wp2
      refine bodyPost_ret (v := .agg #[.slice p0 C.1.length k0, .slice p1 C.2.length k1]) (by simp [results, Tryz.results104, go_sem, T0.out, T1.out]) rfl ⟨_, _, rfl, by rw [HDe.out, HCe.out]; exact hfin.out⟩
end Go.Proofs.YtdlpnhfgjficgaaGreat
