/- ctx.Upto. -/
import Derived.Test.YtbcbmnifbflmaaaGreatPJ
namespace Go.Proofs.YtbcbmnifbflmaaaGreat
open Go.RowKit Go.Maps Go.Shelf Go.Sort

theorem FAt.base {B : List Dot} {node : Int} {k : Nat} (h : FAt B (node, 0) k) (hr : Rise B) (h0 : ∀ d ∈ B, 0 ≤ d.2) : cbase B node = if k < B.length ∧ (B.getD k (0, 0)).1 = node then (B.getD k (0, 0)).2 else 0 := by
  have hlow : ∀ d ∈ B.take k, d.1 ≠ node := by
    intro d hd e
    rw [List.mem_take_iff_getElem] at hd
    obtain ⟨j, hj, rfl⟩ := hd
    have h1 := h.low j (by omega)
    have ej : B.getD j (0, 0) = B[j] := by simp [List.getD, show j < B.length by omega]
    rw [ej] at h1
    have h2 := h0 _ (List.getElem_mem (show j < B.length by omega))
    unfold DL at h1
    dsimp only at h1
    omega
  split
  · rename_i hh
    exact cbase_hit hh.1 hlow hh.2
  · rename_i hh
    refine cbase_none (fun d hd e => ?_)
    obtain ⟨j, hj, rfl⟩ := List.getElem_of_mem hd
    have ej : B.getD j (0, 0) = B[j] := by simp [List.getD, hj]
    rcases Nat.lt_trichotomy j k with h1 | h1 | h1
    · exact hlow _ (by rw [List.mem_take_iff_getElem]; exact ⟨j, by omega, rfl⟩) e
    · subst h1
      exact hh ⟨hj, by rw [ej]; exact e⟩
    · have h2 := rise_get hr h1 hj
      have h3 := h.high k (Nat.le_refl _) (by omega)
      have h4 : (B.getD k (0, 0)).1 ≠ node := fun e => hh ⟨by omega, e⟩
      rw [ej] at h2
      unfold DL at h2 h3
      dsimp only at h3
      omega

def cv (vb vc : Value) : Value := .agg #[vb, vc]
set_option maxHeartbeats 2000000 in
theorem upto_any (vb vc : Value) (B : List Dot) (node : Int) (w : World) (hB : Dots w vb B) (hs : Rise B) (h0 : ∀ d ∈ B, 0 ≤ d.2) (hl : B.length ≤ 100000) :
    Calls Tryz.prog 87 #[cv vb vc, .int .i64 node] w fun e w' => e = .returned (.int .i64 (cbase B node)) ∧ Pure w w' := by
  obtain ⟨a, cap, rfl⟩ := hB.shape
  obtain ⟨wz, hwz⟩ : ∃ wz, wz = w.alloc (.cells #[.slice a B.length cap, vc] 31) := ⟨_, rfl⟩
  have Hpz := hid (show Pure w wz from by rw [hwz]; exact (Below.refl _ _).alloc (Nat.le_refl _) _)
  have k0 : wz.cell? ⟨w.heap.size, 0, none⟩ = some (.slice a B.length cap) := by rw [hwz, World.cell?_alloc_new]; simp
  have hkb : w.heap.size < wz.heap.size := by rw [hwz]; simp
  have Hf := hid (find_any _ B (node, 0) wz (Row.pure hB Hpz.out) hs hl)
  have Hb := hid (fun k (h : FAt B (node, 0) k) => h.base hs h0)
  have HB := hid (Row.pure hB Hpz.out)
  clear hB hs h0
  unfold cv dv at *
  dsimp only at *
  go_enter Tryz.func87, Tryz.ntmps87
  go_wp2_with fail
  rw [← hwz]
  clear hwz
  refine Hf.out.mono ?_
  rintro e w1 ⟨k, hat, rfl, hp1⟩
  have Hbb := hid (Hb.out k hat)
  have k1 : w1.cell? ⟨w.heap.size, 0, none⟩ = some (.slice a B.length cap) := (hp1.cell (p := ⟨w.heap.size, 0, none⟩) hkb).trans k0
  have Hp := hid (fun n => (Hpz.out.then_ hp1).then_ (pure_drewN w1 n))
  have hle := hat.le
  clear Hf Hb hat
  generalize decide ((node, (0 : Int)) ∈ B) = is at *
  by_cases hlt : k < B.length
  · have hlt' : (k : Int) < (B.length : Int) := by omega
    obtain ⟨b, off, rfl, hb, x0, x1⟩ := Dots.get (Row.pure HB.out hp1 : Dots w1 _ B) hlt
    by_cases he : (B.getD k (0, 0)).1 = node
    · have Hc := hid (show cbase B node = (B.getD k (0, 0)).2 by rw [Hbb.out, if_pos ⟨hlt, he⟩])
      have he' : ((B.getD k (0, 0)).1 == node) = true := by simpa using he
      clear Hbb hp1 k0 hb he
      generalize B.getD k (0, 0) = z at *
      obtain ⟨z1, z2⟩ := z
      dsimp only at x0 x1 he' Hc
      go_wp2
      go_ret
      exact ⟨by rw [Hc.out]; rfl, Hp.out 0⟩
    · have Hc := hid (show cbase B node = 0 by rw [Hbb.out, if_neg (fun h => he h.2)])
      have he' : ((B.getD k (0, 0)).1 == node) = false := by simpa using he
      clear Hbb hp1 k0 hb he
      generalize B.getD k (0, 0) = z at *
      obtain ⟨z1, z2⟩ := z
      dsimp only at x0 x1 he' Hc
      go_wp2
      go_ret
      exact ⟨by rw [Hc.out]; rfl, Hp.out 0⟩
  · have hlt' : ¬ (k : Int) < (B.length : Int) := by omega
    have Hc := hid (show cbase B node = 0 by rw [Hbb.out, if_neg (fun h => hlt h.1)])
    clear Hbb hp1 k0
    go_wp2
    go_ret
    exact ⟨by rw [Hc.out]; rfl, Hp.out 0⟩
end Go.Proofs.YtbcbmnifbflmaaaGreat
