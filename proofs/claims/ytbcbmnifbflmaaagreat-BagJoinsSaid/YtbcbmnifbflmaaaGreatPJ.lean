/- dot.Find. -/
import Derived.Test.YtbcbmnifbflmaaaGreatMPa
namespace Go.Proofs.YtbcbmnifbflmaaaGreat
open Go.RowKit Go.Maps Go.Shelf Go.Sort

/-- Where a name is, or would be. -/
structure FAt (l : List Dot) (d : Dot) (k : Nat) : Prop where
  le : k ≤ l.length
  low : ∀ j, j < k → DL (l.getD j (0, 0)) d
  high : ∀ j, k ≤ j → j < l.length → ¬ DL (l.getD j (0, 0)) d
theorem rise_get {l : List Dot} (h : Rise l) {i j : Nat} (hi : i < j) (hj : j < l.length) : DL (l.getD i (0, 0)) (l.getD j (0, 0)) := by
  have := List.pairwise_iff_getElem.1 h i j (by omega) hj hi
  have hi' : i < l.length := by omega
  simpa [List.getD, hi', hj] using this
theorem FAt.mem {l : List Dot} {d : Dot} {k : Nat} (h : FAt l d k) (hk : k < l.length) (hr : Rise l) : decide (d ∈ l) = decide (l.getD k (0, 0) = d) := by
  by_cases e : l.getD k (0, 0) = d
  · rw [decide_eq_true e, decide_eq_true]; rw [← e]; exact getD_mem_d hk
  · rw [decide_eq_false e, decide_eq_false]
    intro hm
    obtain ⟨j, hj, rfl⟩ := List.getElem_of_mem hm
    have ej : l.getD j (0, 0) = l[j] := by simp [List.getD, hj]
    rw [← ej] at e h
    rcases Nat.lt_trichotomy j k with h1 | h1 | h1
    · exact DL.irrefl _ (h.low j h1)
    · exact e (by rw [h1])
    · exact h.high k (Nat.le_refl _) hk (rise_get hr h1 hj)
theorem FAt.none {l : List Dot} {d : Dot} {k : Nat} (h : FAt l d k) (hk : ¬ k < l.length) : decide (d ∈ l) = false := by
  rw [decide_eq_false]
  intro hm
  obtain ⟨j, hj, rfl⟩ := List.getElem_of_mem hm
  have ej : l.getD j (0, 0) = l[j] := by simp [List.getD, hj]
  have := h.low j (by omega)
  rw [ej] at this
  exact DL.irrefl _ this
/-- Between lo and hi. -/
structure FI (l : List Dot) (d : Dot) (lo hi : Nat) : Prop where
  le : lo ≤ hi
  len : hi ≤ l.length
  low : ∀ j, j < lo → DL (l.getD j (0, 0)) d
  high : ∀ j, hi ≤ j → j < l.length → ¬ DL (l.getD j (0, 0)) d
theorem FI.up {l : List Dot} {d : Dot} {lo hi m : Nat} (h : FI l d lo hi) (hr : Rise l) (hm : m < hi) (e : dlt (l.getD m (0, 0)) d = true) : FI l d (m + 1) hi :=
  ⟨by omega, h.len, fun j hj => by
    rw [dlt_iff] at e
    rcases Nat.lt_or_ge j m with h1 | h1
    · exact (rise_get hr h1 (by have := h.len; omega)).trans e
    · obtain rfl : j = m := by omega
      exact e, h.high⟩
theorem FI.down {l : List Dot} {d : Dot} {lo hi m : Nat} (h : FI l d lo hi) (hr : Rise l) (hl : lo ≤ m) (hm : m < hi) (e : dlt (l.getD m (0, 0)) d = false) : FI l d lo m :=
  ⟨hl, by have := h.len; omega, h.low, fun j hj hjl hd => by
    rw [dlt_false] at e
    rcases Nat.lt_or_ge m j with h1 | h1
    · exact e ((rise_get hr h1 hjl).trans hd)
    · obtain rfl : j = m := by omega
      exact e hd⟩
theorem FI.at_ {l : List Dot} {d : Dot} {lo hi : Nat} (h : FI l d lo hi) (e : ¬ lo < hi) : FAt l d lo :=
  have := h.le
  ⟨Nat.le_trans h.le h.len, h.low, fun j hj hl => h.high j (by omega) hl⟩
def FdP (l : List Dot) (d : Dot) (w : World) (e : Ending) (w' : World) : Prop := ∃ k, FAt l d k ∧ e = .returned (.tuple #[.int .i64 (k : Nat), .bool (decide (d ∈ l))]) ∧ Pure w w'

set_option maxRecDepth 8000 in
set_option maxHeartbeats 2000000 in
theorem find_any (v : Value) (l : List Dot) (d : Dot) (w : World) (hr : Dots w v l) (hs : Rise l) (hl : l.length ≤ 100000) :
    Calls Tryz.prog 90 #[v, dv d] w (FdP l d w) := by
  obtain ⟨a, cap, rfl⟩ := hr.shape
  have Hr := hid hr
  have Hs := hid hs
  have hless := hid (fun z W => less_any z d W)
  have hmem := hid (fun k (h : FAt l d k) (hk : k < l.length) => h.mem hk hs)
  have hnone := hid (fun k (h : FAt l d k) (hk : ¬ k < l.length) => h.none hk)
  have hfin : Hid (∀ (k : Nat) (W : World), FAt l d k → Pure w W → FdP l d w (.returned (.tuple #[.int .i64 (k : Nat), .bool (decide (d ∈ l))])) W) := fun k W h hW => ⟨k, h, rfl, hW⟩
  have heq := dot_eqIn
  have hst := hid (show FI l d 0 l.length from ⟨Nat.zero_le _, Nat.le_refl _, fun j hj => absurd hj (Nat.not_lt_zero _), fun j h1 h2 => by omega⟩)
  have Hup := hid (fun lo hi m (h : FI l d lo hi) => h.up (m := m) hs)
  have Hdn := hid (fun lo hi m (h : FI l d lo hi) => h.down (m := m) hs)
  have Hat := hid (fun lo hi (h : FI l d lo hi) => h.at_)
  obtain ⟨wz, hwz⟩ : ∃ wz, wz = w.alloc (.cells #[.int .i64 d.1, .int .i64 d.2] 28) := ⟨_, rfl⟩
  have Hpz := hid (show Pure w wz from by rw [hwz]; exact (Below.refl _ _).alloc (Nat.le_refl _) _)
  have k0 : wz.cell? ⟨w.heap.size, 0, none⟩ = some (.int .i64 d.1) := by rw [hwz, World.cell?_alloc_new]; simp
  have k1 : wz.cell? ⟨w.heap.size, 1, none⟩ = some (.int .i64 d.2) := by rw [hwz, World.cell?_alloc_new]; simp
  have hkb : w.heap.size < wz.heap.size := by rw [hwz]; simp
  clear hr hs
  obtain ⟨x, y⟩ := d
  unfold dv at *
  dsimp only at *
  go_enter Tryz.func90, Tryz.ntmps90
  go_wp2_with fail
  rw [← hwz]
  clear hwz
  go_step3
  go_wp2_with fail
  go_step3
  go_wp2_with fail
  go_loopw [6, 7, 8] (fun s6 s7 _ wr => ∃ lo hi : Nat, s6 = .int .i64 lo ∧ s7 = .int .i64 hi ∧ FI l (x, y) lo hi ∧ Pure wz wr) (fun s6 s7 _ _ => (RowKit.intOf s7).toNat - (RowKit.intOf s6).toNat)
  case atStart => exact ⟨0, l.length, rfl, rfl, hst.out, Below.refl _ _⟩
  case round =>
    obtain ⟨lo, hi, rfl, rfl, hI, hp⟩ := hrel
    have hle := hI.le
    have hlen := hI.len
    have HI := hid hI
    have Hp := hid hp
    have g0 : wr.cell? ⟨w.heap.size, 0, none⟩ = some (.int .i64 x) := (hp.cell (p := ⟨w.heap.size, 0, none⟩) hkb).trans k0
    have g1 : wr.cell? ⟨w.heap.size, 1, none⟩ = some (.int .i64 y) := (hp.cell (p := ⟨w.heap.size, 1, none⟩) hkb).trans k1
    by_cases hlt : lo < hi
    · have hge : ¬ (hi : Int) ≤ (lo : Int) := by omega
      have hm1 : (lo + hi) / 2 < hi := by omega
      have hm2 : lo ≤ (lo + hi) / 2 := by omega
      have hsum : IntKind.i64.wrap ((lo : Int) + (hi : Int)) = (lo : Int) + (hi : Int) := IntWalk.i64_in _ (by omega)
      have hdiv : ((lo : Int) + (hi : Int)).tdiv 2 = (((lo + hi) / 2 : Nat) : Int) := by rw [Int.tdiv_eq_ediv_of_nonneg (by omega)]; omega
      have HU := hid (Hup.out lo hi ((lo + hi) / 2) HI.out hm1)
      have HD := hid (Hdn.out lo hi ((lo + hi) / 2) HI.out hm2 hm1)
      generalize (lo + hi) / 2 = m at *
      have hwm : IntKind.i64.wrap (m : Int) = (m : Int) := IntWalk.i64_in _ (by omega)
      obtain ⟨b, off, rfl, hb, x0, x1⟩ := Dots.get (Row.pure Hr.out (Hpz.out.then_ hp) : Dots wr _ l) (k := m) (by omega)
      have hml : (m : Int) < (l.length : Int) := by omega
      clear hI hp hb k0 k1
      have Hl2 := hid (fun W => hless.out (l.getD m (0, 0)) W)
      generalize l.getD m (0, 0) = z at *
      obtain ⟨z1, z2⟩ := z
      dsimp only at x0 x1 Hl2
      have hkeep := hid (fun W W' (hW : Pure W W') (h : W.cell? ⟨b, off + m * 2, none⟩ = some (.int .i64 z1) ∧ W.cell? ⟨b, off + m * 2 + 1, none⟩ = some (.int .i64 z2) ∧ W.cell? ⟨w.heap.size, 0, none⟩ = some (.int .i64 x) ∧ W.cell? ⟨w.heap.size, 1, none⟩ = some (.int .i64 y) ∧ Pure wz W) =>
        (show W'.cell? ⟨b, off + m * 2, none⟩ = some (.int .i64 z1) ∧ W'.cell? ⟨b, off + m * 2 + 1, none⟩ = some (.int .i64 z2) ∧ W'.cell? ⟨w.heap.size, 0, none⟩ = some (.int .i64 x) ∧ W'.cell? ⟨w.heap.size, 1, none⟩ = some (.int .i64 y) ∧ Pure wz W' from
          ⟨(hW.cell (World.block_lt_of_cell? W _ h.1)).trans h.1, (hW.cell (World.block_lt_of_cell? W _ h.2.1)).trans h.2.1, (hW.cell (World.block_lt_of_cell? W _ h.2.2.1)).trans h.2.2.1, (hW.cell (World.block_lt_of_cell? W _ h.2.2.2.1)).trans h.2.2.2.1, h.2.2.2.2.then_ hW⟩))
      have hst0 := hid (hkeep.out wr wr.drew (Below.refl _ _).drew ⟨x0, x1, g0, g1, Hp.out⟩)
      cases hq : dlt (z1, z2) (x, y) with
      | true =>
        have HU2 := hid (HU.out hq)
        rw [hq] at Hl2
        clear hq HD HU x0 x1 g0 g1
        go_wp2_with fail
        go_region_held3 (fun W => W.cell? ⟨b, off + m * 2, none⟩ = some (.int .i64 z1) ∧ W.cell? ⟨b, off + m * 2 + 1, none⟩ = some (.int .i64 z2) ∧ W.cell? ⟨w.heap.size, 0, none⟩ = some (.int .i64 x) ∧ W.cell? ⟨w.heap.size, 1, none⟩ = some (.int .i64 y) ∧ Pure wz W)
          (first | exact hst0.out | exact hkeep.out _ _ (by assumption) (by assumption))
          ((go_at_call 47; (refine (Hl2.out _).mono ?_); rintro e w7 ⟨rfl, hp7⟩))
        have Hp7 := hid (show Pure wz w7 from by have h7 : w7.cell? ⟨b, off + m * 2, none⟩ = some (.int .i64 z1) ∧ w7.cell? ⟨b, off + m * 2 + 1, none⟩ = some (.int .i64 z2) ∧ w7.cell? ⟨w.heap.size, 0, none⟩ = some (.int .i64 x) ∧ w7.cell? ⟨w.heap.size, 1, none⟩ = some (.int .i64 y) ∧ Pure wz w7 := by assumption
                                                 exact h7.2.2.2.2)
        go_wp2
        go_roundw
        case rel => exact ⟨m + 1, hi, by go_num, rfl, HU2.out, Hp7.out⟩
        case measure => simp [RowKit.intOf]; omega
      | false =>
        have HD2 := hid (HD.out hq)
        rw [hq] at Hl2
        clear hq HD HU x0 x1 g0 g1
        go_wp2_with fail
        go_region_held3 (fun W => W.cell? ⟨b, off + m * 2, none⟩ = some (.int .i64 z1) ∧ W.cell? ⟨b, off + m * 2 + 1, none⟩ = some (.int .i64 z2) ∧ W.cell? ⟨w.heap.size, 0, none⟩ = some (.int .i64 x) ∧ W.cell? ⟨w.heap.size, 1, none⟩ = some (.int .i64 y) ∧ Pure wz W)
          (first | exact hst0.out | exact hkeep.out _ _ (by assumption) (by assumption))
          ((go_at_call 47; (refine (Hl2.out _).mono ?_); rintro e w7 ⟨rfl, hp7⟩))
        have Hp7 := hid (show Pure wz w7 from by have h7 : w7.cell? ⟨b, off + m * 2, none⟩ = some (.int .i64 z1) ∧ w7.cell? ⟨b, off + m * 2 + 1, none⟩ = some (.int .i64 z2) ∧ w7.cell? ⟨w.heap.size, 0, none⟩ = some (.int .i64 x) ∧ w7.cell? ⟨w.heap.size, 1, none⟩ = some (.int .i64 y) ∧ Pure wz w7 := by assumption
                                                 exact h7.2.2.2.2)
        go_wp2
        go_roundw
        case rel => exact ⟨lo, m, rfl, rfl, HD2.out, Hp7.out⟩
        case measure => simp [RowKit.intOf]; omega
    · have hge : (hi : Int) ≤ (lo : Int) := by omega
      have HA := hid (Hat.out lo hi HI.out hlt)
      by_cases hin : lo < l.length
      · have hin' : (lo : Int) < (l.length : Int) := by omega
        obtain ⟨b, off, rfl, hb, x0, x1⟩ := Dots.get (Row.pure Hr.out (Hpz.out.then_ hp) : Dots wr _ l) (k := lo) hin
        have Hm := hid (hmem.out lo HA.out hin)
        generalize l.getD lo (0, 0) = z at *
        obtain ⟨z1, z2⟩ := z
        dsimp only at x0 x1
        have hz : (decide (z1 = x) && decide (z2 = y)) = decide ((z1, z2) = (x, y)) := by simp
        have Hz := hid hz
        generalize hQ : (decide (z1 = x) && decide (z2 = y)) = Q at *
        clear hI hp hb k0 k1 hz
        have Hf := hid (fun n => hfin.out lo (wr.drewN n) HA.out ((Hpz.out.then_ Hp.out).then_ (pure_drewN _ n)))
        rw [Hm.out, ← Hz.out] at Hf
        clear Hm Hz
        go_wp2_with fail
        go_quiet (fail)
        go_wp2
        exact bodyPost_ret (v := .tuple #[.int .i64 (lo : Nat), .bool Q]) (by simp [results, Tryz.results90, go_sem]) rfl (Hf.out _)
      · have hin' : ¬ (lo : Int) < (l.length : Int) := by omega
        have Hn := hid (hnone.out lo HA.out hin)
        have Hf := hid (fun n => hfin.out lo (wr.drewN n) HA.out ((Hpz.out.then_ Hp.out).then_ (pure_drewN _ n)))
        rw [Hn.out] at Hf
        clear hI hp k0 k1 Hn
        go_wp2_with fail
        go_quiet (fail)
        go_wp2
        exact bodyPost_ret (v := .tuple #[.int .i64 (lo : Nat), .bool false]) (by simp [results, Tryz.results90, go_sem]) rfl (Hf.out _)
end Go.Proofs.YtbcbmnifbflmaaaGreat
