/- SiftParts. -/
import Derived.Test.YtcjggofcmjpfnaaGreatMSi
import Derived.Test.YtcjggofcmjpfnaaGreatMSp
import Derived.Test.YtcjggofcmjpfnaaGreatMSk
namespace Go.Proofs.YtcjggofcmjpfnaaGreat
open Go.RowKit Go.Maps Go.Shelf Go.Sort

theorem pbox1 (w : World) (a0 a1 : Value) : ∃ wz, wz = w.alloc (.cells #[a0, a1] 25) ∧ Hid (Pure w wz) ∧ Hid (∀ W, Pure wz W → (W.cell? ⟨w.heap.size, 0, none⟩ = some a0 ∧ W.cell? ⟨w.heap.size, 1, none⟩ = some a1 ∧ Pure wz W)) := by
  refine ⟨_, rfl, (Below.refl _ _).alloc (Nat.le_refl _) _, fun W hW => ?_⟩
  have n0 := block_alloc_new w (.cells #[a0, a1] 25)
  have e0 := (hW.block _ (lt_of_block n0)).trans n0
  exact ⟨cell_of_block e0 0, cell_of_block e0 1, hW⟩
theorem U64_le : U64.length ≤ 200 := by rw [U64_len]; decide
theorem row_ints_take {w : World} {b o cap : Nat} {L : List Int} {k : Nat} (h : Ints w (.slice (some ⟨b, o, none⟩) L.length cap) L) (hk : k ≤ L.length) : Ints w (.slice (some ⟨b, o, none⟩) k cap) (L.take k) := by
  have hT := row_pre h (k := k) hk
  have e1 : (L.take k).length = k := by rw [List.length_take]; omega
  unfold Ints
  rw [e1]
  simpa [List.map_take] using hT
theorem rsameP {v0 v1 v2 u0 u1 u2 : Value} {g : Bag} {W : World} (hr : BR3 v0 v1 v2 g W) (hs : BR3 u0 u1 u2 g W) : Calls Tryz.prog 12 #[.agg #[v0, v1, v2], .agg #[u0, u1, u2]] W fun e w' => e = .returned (.bool true) ∧ Pure W w' := by
  have := rsameG hr hs
  rw [decide_eq_true rfl] at this
  exact this
theorem isameP {v u : Value} {l : List Int} {W : World} (hv : Ints W v l) (hu : Ints W u l) : Calls Tryz.prog 17 #[v, u] W fun e w' => e = .returned (.bool true) ∧ Pure W w' := by
  have := same_any v u l l W hv hu
  rw [decide_eq_true rfl] at this
  exact this

set_option maxRecDepth 8000 in
set_option maxHeartbeats 8000000 in
theorem parts_walk (a0 a1 v : Value) (M : List Msg) (G : List Bool) (N : List Int) (w : World) (hp : PlanV w a0 a1 M G) (hv : Ints w v N) :
    Calls Tryz.prog 5 #[.agg #[a0, a1], v] w fun e w' => e = .returned (.bool true) ∧ Pure w w' := by
  obtain ⟨wz, hwz, Hpz, hS⟩ := pbox1 w a0 a1
  have HA := hid (fun W (hW : Pure wz W) => planG (hp.pure (Hpz.out.then_ hW)))
  have okA := hid (planB_ok M G)
  have HN := hid (fun W (hW : Pure wz W) => (show Ints W v N from Row.pure hv (Hpz.out.then_ hW)))
  have hNl : N.length ≤ maxLen := Row.len_le hv
  unfold maxLen at hNl
  unfold BagO at HA
  generalize planB M G = gA at *
  obtain ⟨av, cv, rfl⟩ := hv.shape
  clear hp hv
  go_enter Tryz.func5, Tryz.ntmps5
  go_wp2_with fail
  rw [← hwz]
  clear hwz
  refine (awake_any wz).mono ?_
  rintro e w1 ⟨rfl, hp1⟩
  have H1 := hid hp1
  obtain ⟨f0, f1, _⟩ := hS.out w1 hp1
  clear hp1
  go_wp2_with fail
  refine (HA.out w1 H1.out).mono ?_
  rintro e w2 ⟨x0, x1, x2, rfl, hr2, hp2, hf2⟩
  have hXa := BX.made hr2
  obtain ⟨y0, k0, rfl⟩ := hr2.1.shape
  obtain ⟨y1, k1, rfl⟩ := hr2.2.1.shape
  obtain ⟨y2, k2, rfl⟩ := hr2.2.2.shape
  obtain ⟨w3, hw3⟩ : ∃ w3, w3 = w2.alloc (.cells #[.slice y0 gA.1.length k0, .slice y1 gA.2.1.length k1, .slice y2 gA.2.2.length k2] 31) := ⟨_, rfl⟩
  rw [← hw3] at hXa
  have hp3 : Pure w2 w3 := by rw [hw3]; exact (Below.refl _ _).alloc (Nat.le_refl _) _
  have H3 := hid (H1.out.then_ (hp2.then_ hp3))
  have HXa := hid (fun W (hW : Pure w3 W) => hXa.pure hW)
  have HN3 := hid (HN.out w3 H3.out)
  clear f0 f1 hr2 hp2 hf2 hp3 hXa HA hS
  generalize hna : w2.heap.size = na at *
  go_upto_if 16 with fail
  rw [← hw3]
  clear hw3 hna
  generalize Value.slice y0 gA.1.length k0 = z0 at *
  generalize Value.slice y1 gA.2.1.length k1 = z1 at *
  generalize Value.slice y2 gA.2.2.length k2 = z2 at *
  go_cut [1] from 14 (fun lv wx => (∃ N', Ints wx lv N' ∧ N'.length ≤ 6) ∧ wx = w3)
  case first =>
    by_cases h6 : 6 < N.length
    · have h6' : (6 : Int) < (N.length : Int) := by omega
      obtain ⟨bl, ol, rfl, _, _⟩ := ints_get_j HN3.out (k := 0) (by omega)
      have hcap : N.length ≤ cv := by
        obtain ⟨_, a', c', e, q1, q2, _⟩ := HN3.out
        cases e; exact q1
      have h6c : (6 : Int) ≤ (cv : Int) := by omega
      have hT := hid (row_ints_take HN3.out (k := 6) (by omega))
      go_wp2
      go_meet
      case rel => exact ⟨⟨_, hT.out, by rw [List.length_take]; omega⟩, rfl⟩
    · have h6' : ¬ (6 : Int) < (N.length : Int) := by omega
      go_wp2
      go_meet
      case rel => exact ⟨⟨_, HN3.out, by omega⟩, rfl⟩
  case rest =>
  obtain ⟨⟨N', hN', hl6⟩, rfl⟩ := hcut
  obtain ⟨al, cl, rfl⟩ := hN'.shape
  have HL := hid (fun W (hW : Pure wc W) => (show Ints W _ N' from Row.pure hN' hW))
  clear HN HN3 hN' hNl
  go_upto_if 21 with fail
  go_cut [7] from 19 (fun nd wx => (∃ x : Int, nd = .int .i64 x) ∧ wx = wc)
  case first =>
    by_cases h0 : 0 < N'.length
    · have h0' : (0 : Int) < (N'.length : Int) := by omega
      obtain ⟨b, off, rfl, _, q0⟩ := ints_get_j (HL.out wc (Below.refl _ _)) h0
      simp only [Nat.add_zero] at q0
      go_wp2
      go_meet
      case rel => exact ⟨⟨_, rfl⟩, rfl⟩
    · have h0' : ¬ (0 : Int) < (N'.length : Int) := by omega
      go_wp2
      go_meet
      case rel => exact ⟨⟨_, rfl⟩, rfl⟩
  case rest =>
  obtain ⟨⟨x, rfl⟩, rfl⟩ := hcut
  have hSc : Hid (∀ W, Pure wc W → (W.cell? ⟨na, 0, none⟩ = some z0 ∧ W.cell? ⟨na, 1, none⟩ = some z1 ∧ W.cell? ⟨na, 2, none⟩ = some z2 ∧ Pure wc W)) := fun W hW => by
    obtain ⟨e0, e1, e2⟩ := (HXa.out W hW).cells
    exact ⟨e0, e1, e2, hW⟩
  have hSd : Hid (∀ W : World, (W.cell? ⟨na, 0, none⟩ = some z0 ∧ W.cell? ⟨na, 1, none⟩ = some z1 ∧ W.cell? ⟨na, 2, none⟩ = some z2 ∧ Pure wc W) → Pure wc W) := fun W h => h.2.2.2
  have hst := hid (hSc.out wc.drew (Below.refl _ _).drew)
  have qa := hid (fun W (hW : Pure wc W) => partG x (HXa.out W hW).r okA.out (Nat.le_trans U64_le (by decide)))
  have qb := hid (fun W (hW : Pure wc W) => rpartG x (HXa.out W hW).r okA.out (Nat.le_trans U64_le (by decide)))
  have qs := hid (fun W s0 s1 s2 t0 t1 t2 (ha : BR3 s0 s1 s2 (bpart gA x) W) (hb : BR3 t0 t1 t2 (bpart gA x) W) => rsameP ha hb)
  unfold BagO at qa qb
  generalize bpart gA x = Gx at *
  go_wp2_with fail
  go_region_held3 (fun W => W.cell? ⟨na, 0, none⟩ = some z0 ∧ W.cell? ⟨na, 1, none⟩ = some z1 ∧ W.cell? ⟨na, 2, none⟩ = some z2 ∧ Pure wc W)
    (first | with_reducible exact hst.out | with_reducible exact hSc.out _ (Pure.then_ (hSd.out _ (by assumption)) (by assumption)))
    ((first
      | (go_at_call 13; (with_reducible refine (qa.out _ (hSd.out _ (by assumption))).mono ?_); rintro e w7 ⟨s0, s1, s2, rfl, h7, hp7, _⟩)
      | (go_at_call 21; (with_reducible refine (qb.out _ (hSd.out _ (by assumption))).mono ?_); rintro e w8 ⟨t0, t1, t2, rfl, h8, hp8, _⟩)
      | (go_at_call 12; (first | (refine (qs.out _ _ _ _ _ _ _ (h7.pure hp8) h8).mono ?_) | (refine (qs.out _ _ _ _ _ _ _ h7 (h8.pure hp7)).mono ?_)); rintro e w9 ⟨rfl, hp9⟩)))
  have H9 := hid (hSd.out w9 (by assumption))
  clear h7 hp7 h8 hp8 hp9 hst hSc hSd qa qb qs
  have HXb := hid (fun W (hW : Pure w9 W) => HXa.out W (H9.out.then_ hW))
  have HLb := hid (fun W (hW : Pure w9 W) => HL.out W (H9.out.then_ hW))
  have hSc : Hid (∀ W, Pure w9 W → (W.cell? ⟨na, 0, none⟩ = some z0 ∧ W.cell? ⟨na, 1, none⟩ = some z1 ∧ W.cell? ⟨na, 2, none⟩ = some z2 ∧ Pure w9 W)) := fun W hW => by
    obtain ⟨e0, e1, e2⟩ := (HXb.out W hW).cells
    exact ⟨e0, e1, e2, hW⟩
  have hSd : Hid (∀ W : World, (W.cell? ⟨na, 0, none⟩ = some z0 ∧ W.cell? ⟨na, 1, none⟩ = some z1 ∧ W.cell? ⟨na, 2, none⟩ = some z2 ∧ Pure w9 W) → Pure w9 W) := fun W h => h.2.2.2
  have hst := hid (hSc.out w9.drew (Below.refl _ _).drew)
  have qa := hid (fun W (hW : Pure w9 W) => snodes_any _ _ _ gA U64 W (HXb.out W hW).r okA.out (Nat.le_trans U64_le (by decide)))
  have qb := hid (fun W (hW : Pure w9 W) => rcnodesG (X := gA.2) (HXb.out W hW).r.2.1 (HXb.out W hW).r.2.2 okA.out.sml (Nat.le_trans U64_le (by decide)))
  have qs := hid (fun W s t (ha : Ints W s (cnodes gA.2.1 gA.2.2)) (hb : Ints W t (cnodes gA.2.1 gA.2.2)) => isameP ha hb)
  unfold IntsO at qa
  generalize cnodes gA.2.1 gA.2.2 = Nn at *
  go_wp2_with fail
  go_region_held3 (fun W => W.cell? ⟨na, 0, none⟩ = some z0 ∧ W.cell? ⟨na, 1, none⟩ = some z1 ∧ W.cell? ⟨na, 2, none⟩ = some z2 ∧ Pure w9 W)
    (first | with_reducible exact hst.out | with_reducible exact hSc.out _ (Pure.then_ (hSd.out _ (by assumption)) (by assumption)))
    ((first
      | (go_at_call 22; (with_reducible refine (qa.out _ (hSd.out _ (by assumption))).mono ?_); rintro e w7 ⟨s0, rfl, h7, hp7⟩)
      | (go_at_call 23; (with_reducible refine (qb.out _ (hSd.out _ (by assumption))).mono ?_); rintro e w8 ⟨t0, rfl, h8, hp8, _⟩)
      | (go_at_call 17; (first | (refine (qs.out _ _ _ (Row.of_own (own_pure h7 hp8)) h8).mono ?_) | (refine (qs.out _ _ _ (Row.of_own h7) (Row.pure h8 hp7)).mono ?_)); rintro e wb ⟨rfl, hp9⟩)))
  have Hb := hid (hSd.out wb (by assumption))
  clear h7 hp7 h8 hp8 hp9 hst hSc hSd qa qb qs HXa HL
  have HXa := hid (fun W (hW : Pure wb W) => HXb.out W (Hb.out.then_ hW))
  have HL := hid (fun W (hW : Pure wb W) => HLb.out W (Hb.out.then_ hW))
  clear HXb HLb
  have hSc : Hid (∀ W, Pure wb W → (W.cell? ⟨na, 0, none⟩ = some z0 ∧ W.cell? ⟨na, 1, none⟩ = some z1 ∧ W.cell? ⟨na, 2, none⟩ = some z2 ∧ Pure wb W)) := fun W hW => by
    obtain ⟨e0, e1, e2⟩ := (HXa.out W hW).cells
    exact ⟨e0, e1, e2, hW⟩
  have hSd : Hid (∀ W : World, (W.cell? ⟨na, 0, none⟩ = some z0 ∧ W.cell? ⟨na, 1, none⟩ = some z1 ∧ W.cell? ⟨na, 2, none⟩ = some z2 ∧ Pure wb W) → Pure wb W) := fun W h => h.2.2.2
  have hst := hid (hSc.out wb.drew (Below.refl _ _).drew)
  have qa := hid (fun W (hW : Pure wb W) => ssome_any _ _ _ _ gA N' U64 W (HXa.out W hW).r okA.out U64_le (HL.out W hW) (by omega))
  have qb := hid (fun W (hW : Pure wb W) => rsome_any _ _ _ _ gA N' U64 W (HXa.out W hW).r okA.out U64_le (HL.out W hW))
  have qs := hid (fun W s0 s1 s2 t0 t1 t2 (ha : BR3 s0 s1 s2 (bsome gA N') W) (hb : BR3 t0 t1 t2 (bsome gA N') W) => rsameP ha hb)
  unfold BagO at qa qb
  generalize bsome gA N' = Gx at *
  go_wp2_with fail
  go_region_held3 (fun W => W.cell? ⟨na, 0, none⟩ = some z0 ∧ W.cell? ⟨na, 1, none⟩ = some z1 ∧ W.cell? ⟨na, 2, none⟩ = some z2 ∧ Pure wb W)
    (first | with_reducible exact hst.out | with_reducible exact hSc.out _ (Pure.then_ (hSd.out _ (by assumption)) (by assumption)))
    ((first
      | (go_at_call 24; (with_reducible refine (qa.out _ (hSd.out _ (by assumption))).mono ?_); rintro e w7 ⟨s0, s1, s2, rfl, h7, hp7, _⟩)
      | (go_at_call 25; (with_reducible refine (qb.out _ (hSd.out _ (by assumption))).mono ?_); rintro e w8 ⟨t0, t1, t2, rfl, h8, hp8, _⟩)
      | (go_at_call 12; (first | (refine (qs.out _ _ _ _ _ _ _ (h7.pure hp8) h8).mono ?_) | (refine (qs.out _ _ _ _ _ _ _ h7 (h8.pure hp7)).mono ?_)); rintro e wd ⟨rfl, hp9⟩)))
  have Hd := hid (Hpz.out.then_ (H3.out.then_ (H9.out.then_ (Hb.out.then_ (hSd.out wd (by assumption))))))
  clear h7 hp7 h8 hp8 hp9 hst hSc hSd qa qb qs
  go_wp2
  go_ret
  exact ⟨rfl, Hd.out⟩
end Go.Proofs.YtcjggofcmjpfnaaGreat
