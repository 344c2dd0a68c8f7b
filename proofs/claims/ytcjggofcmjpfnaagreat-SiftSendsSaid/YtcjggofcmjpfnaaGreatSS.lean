/- SiftSends. -/
import Derived.Test.YtcjggofcmjpfnaaGreatMSq
import Derived.Deep.RegionLawGrows
namespace Go.Proofs.YtcjggofcmjpfnaaGreat
open Go.RowKit Go.Maps Go.Shelf Go.Sort

theorem bags_lit2 (w : World) (s t : V3) : Row (w.alloc (.cells #[s.1, s.2.1, s.2.2, t.1, t.2.1, t.2.2] 31)) (.slice (some ⟨w.heap.size, 0, none⟩) 2 2) 2 3 (bvs [s, t]) := by
  refine ⟨rfl, _, _, rfl, Nat.le_refl _, by unfold maxLen; omega, .inr ⟨_, _, rfl, by simp, fun i hi => ?_⟩⟩
  rw [Nat.zero_add, World.cell?_alloc_new]
  simp [bvs, bcells]
theorem bagsR2 {W : World} {s t : V3} {g h : Bag} (h1 : BR3 s.1 s.2.1 s.2.2 g W) (h2 : BR3 t.1 t.2.1 t.2.2 h W) : BagsR [s, t] [g, h] W := by
  refine ⟨rfl, fun k hk => ?_⟩
  match k, hk with
  | 0, _ => exact h1
  | 1, _ => exact h2
theorem bgather2 {U : List Dot} {g h : Bag} (hg : BOk U g) : bgather [g, h] = bjoin g h := by
  show bjoin (bjoin ([], [], []) g) h = _
  rw [bjoin_comm (BOk.nil U) hg, bjoin_nil hg]
theorem blacks_len (g : Bag) (M : List (List UInt8)) : (blacks g M).length ≤ 2 * g.2.1.length + 2 * g.2.2.length := by
  have h1 : (blacks g M).length ≤ (cnodes g.2.1 g.2.2).length := List.length_filter_le _ _
  have := cnodes_len' g.2.1 g.2.2
  omega
theorem bmarks_small2 {U : List Dot} {g : Bag} (hg : BOk U g) (hU : U.length ≤ 2000) : ∀ s ∈ bmarks g, s.length ≤ maxLen := by
  intro s hs
  obtain ⟨x, _, rfl⟩ := List.mem_map.1 hs
  exact bmark_len hg (by omega) x
/-- Of two that are laid side by side, all joined. -/
theorem gather2 {s t : V3} {g h : Bag} {U : List Dot} {W : World} (h1 : BR3 s.1 s.2.1 s.2.2 g W) (h2 : BR3 t.1 t.2.1 t.2.2 h W) (hg : BOk U g) (hh : BOk U h) (hU : U.length ≤ 200) :
    Calls Tryz.prog 26 #[.slice (some ⟨W.heap.size, 0, none⟩) 2 2] (W.alloc (.cells #[s.1, s.2.1, s.2.2, t.1, t.2.1, t.2.2] 31)) (BagO W (bjoin g h)) := by
  have hp : Pure W (W.alloc (.cells #[s.1, s.2.1, s.2.2, t.1, t.2.1, t.2.2] 31)) := (Below.refl _ _).alloc (Nat.le_refl _) _
  have := gather_any _ [s, t] [g, h] U _ (bags_lit2 W s t) ((bagsR2 h1 h2).pure hp) (by intro x hx; rcases List.mem_cons.1 hx with rfl | hx; exact hg; rw [List.mem_singleton] at hx; subst hx; exact hh) hU
  rw [bgather2 hg] at this
  exact this.mono fun _ _ ⟨v0, v1, v2, he, q1, q2, q3⟩ => ⟨v0, v1, v2, he, q1, hp.then_ q2, q3.mono hp.size⟩

/-- An empty box that is filled. -/
theorem boxset {n m : Nat} {W : World} {v0 v1 v2 : Value} {g : Bag} (hz : RsB n W) (hr : BR3 v0 v1 v2 g W) (hf : BFr m v0 v1 v2) (hn : n < m) : BX n v0 v1 v2 g (((W.setCell ⟨n, 0, none⟩ v0).setCell ⟨n, 1, none⟩ v1).setCell ⟨n, 2, none⟩ v2) :=
  ⟨set3 hz _ _ _, hr.kept (kept3 W n _ _ _) (fun k hk e => by have := hf.1 k hk; omega) (fun k hk e => by have := hf.2.1 k hk; omega) (fun k hk e => by have := hf.2.2 k hk; omega)⟩
theorem psetz {n : Nat} {w W : World} (h : Pure w W) (hn : w.heap.size ≤ n) (v0 v1 v2 : Value) : Pure w (((W.setCell ⟨n, 0, none⟩ v0).setCell ⟨n, 1, none⟩ v1).setCell ⟨n, 2, none⟩ v2) :=
  (Kept.trans (Pure.kept (S := fun k => w.heap.size ≤ k) h) ((kept3 W n v0 v1 v2).mono (fun k _ e => (show w.heap.size ≤ k by omega)))).below (Nat.le_refl _) (fun k hk e => by omega)
theorem RsB.pure_ {n : Nat} {W W' : World} (h : RsB n W) (hp : Pure W W') : RsB n W' := (hp.block _ (lt_of_block h)).trans h
abbrev ZB : Obj := .cells #[.slice none 0 0, .slice none 0 0, .slice none 0 0] 31
theorem rsb_new (W : World) : RsB W.heap.size (W.alloc ZB) := block_alloc_new _ _
theorem rsb_new_drew (W : World) : RsB W.heap.size (W.drew.alloc ZB) := block_alloc_new W.drew _
theorem pal (W : World) (o : Obj) : Pure W (W.alloc o) := (Below.refl _ _).alloc (Nat.le_refl _) _

theorem gather2N {s t : V3} {g h : Bag} {U : List Dot} {W W' : World} (n : Nat) (hn : n = W.heap.size) (hp : Pure (W.alloc (.cells #[s.1, s.2.1, s.2.2, t.1, t.2.1, t.2.2] 31)) W') (h1 : BR3 s.1 s.2.1 s.2.2 g W) (h2 : BR3 t.1 t.2.1 t.2.2 h W) (hg : BOk U g) (hh : BOk U h) (hU : U.length ≤ 200) :
    Calls Tryz.prog 26 #[.slice (some ⟨n, 0, none⟩) 2 2] W' (BagO W' (bjoin g h)) := by
  subst hn
  have hp0 : Pure W (W.alloc (.cells #[s.1, s.2.1, s.2.2, t.1, t.2.1, t.2.2] 31)) := pal _ _
  have := gather_any _ [s, t] [g, h] U W' (Row.pure (bags_lit2 W s t) hp) (((bagsR2 h1 h2).pure hp0).pure hp) (by intro x hx; rcases List.mem_cons.1 hx with rfl | hx; exact hg; rw [List.mem_singleton] at hx; subst hx; exact hh) hU
  rw [bgather2 hg] at this
  exact this
theorem gather2P {s0 s1 s2 t0 t1 t2 : Value} {g h : Bag} {U : List Dot} {W W' : World} (n : Nat) (hn : n = W.heap.size) (hp : Pure (W.alloc (.cells #[s0, s1, s2, t0, t1, t2] 31)) W') (h1 : BR3 s0 s1 s2 g W) (h2 : BR3 t0 t1 t2 h W) (hg : BOk U g) (hh : BOk U h) (hU : U.length ≤ 200) :
    Calls Tryz.prog 26 #[.slice (some ⟨n, 0, none⟩) 2 2] W' (BagO W' (bjoin g h)) :=
  gather2N (s := (s0, s1, s2)) (t := (t0, t1, t2)) n hn hp h1 h2 hg hh hU
theorem noDiffer {x0 x1 x2 y0 y1 y2 : Value} {g : Bag} {W : World} (hx : BR3 x0 x1 x2 g W) (hy : BR3 y0 y1 y2 g W) (hg : BOk U64 g) :
    Calls Tryz.prog 11 #[.agg #[x0, x1, x2], .agg #[y0, y1, y2]] W fun e w' => ∃ a c, e = .returned (.slice a 0 c) ∧ Pure W w' := by
  have := sdiffer_any x0 x1 x2 y0 y1 y2 g g U64 W hx hy hg hg (by rw [U64_len]; decide)
  rw [bdiffer_self hg] at this
  exact this.mono fun _ _ ⟨v, he, h1, h2⟩ => by
    obtain ⟨a, c, e⟩ := (Row.of_own h1).shape
    exact ⟨a, c, by rw [he, e]; rfl, h2⟩
theorem noLacks {x0 x1 x2 v : Value} {g : Bag} {W : World} (hx : BR3 x0 x1 x2 g W) (hv : Strs W v (bmarks g)) (hg : BOk U64 g) :
    Calls Tryz.prog 18 #[.agg #[x0, x1, x2], v] W fun e w' => ∃ a c, e = .returned (.slice a 0 c) ∧ Pure W w' := by
  have := slacks_any x0 x1 x2 v g (bmarks g) U64 W hx hg (Nat.le_trans U64_le (by decide)) hv (bmarks_small2 hg (Nat.le_trans U64_le (by decide)))
  rw [blacks_own] at this
  exact this.mono fun _ _ ⟨v, he, h1, h2⟩ => by
    obtain ⟨a, c, e⟩ := (Row.of_own h1).shape
    exact ⟨a, c, by rw [he, e]; rfl, h2⟩

set_option maxRecDepth 8000 in
set_option maxHeartbeats 8000000 in
theorem sends_walk (a0 a1 b0 b1 : Value) (M K : List Msg) (G H : List Bool) (w : World) (hp : PlanV w a0 a1 M G) (hq : PlanV w b0 b1 K H) :
    Calls Tryz.prog 8 #[.agg #[a0, a1], .agg #[b0, b1]] w fun e w' => e = .returned (.bool true) ∧ Pure w w' := by
  obtain ⟨wz, hwz, Hpz, hS⟩ := pbox2 w a0 a1 b0 b1
  have HA := hid (fun W (hW : Pure wz W) => planG (hp.pure (Hpz.out.then_ hW)))
  have HB := hid (fun W (hW : Pure wz W) => planG (hq.pure (Hpz.out.then_ hW)))
  have okA := hid (planB_ok M G)
  have okB := hid (planB_ok K H)
  unfold BagO at HA HB
  generalize planB M G = gA at *
  generalize planB K H = gB at *
  clear hp hq
  go_enter Tryz.func8, Tryz.ntmps8
  go_wp2_with fail
  rw [← hwz]
  clear hwz
  refine (awake_any wz).mono ?_
  rintro e w1 ⟨rfl, hp⟩
  have P1 := hid (show Pure wz w1 from hp)
  clear hp
  obtain ⟨hS_0, hS_1, hS_2, hS_3, hS_4⟩ := (hS.out w1 P1.out)
  go_wp2_with fail
  refine (HA.out w1 P1.out).mono ?_
  rintro e wq ⟨x0, x1, x2, rfl, hr, hp, hf⟩
  have hX := BX.made hr
  obtain ⟨y10, k10, rfl⟩ := hr.1.shape
  obtain ⟨y11, k11, rfl⟩ := hr.2.1.shape
  obtain ⟨y12, k12, rfl⟩ := hr.2.2.shape
  obtain ⟨v1, hv1⟩ : ∃ W, W = wq.alloc (.cells #[.slice y10 gA.1.length k10, .slice y11 gA.2.1.length k11, .slice y12 gA.2.2.length k12] 31) := ⟨_, rfl⟩
  rw [← hv1] at hX
  clear hS_0 hS_1 hS_2 hS_3 hS_4
  have P2 := hid (show Pure w1 v1 from hp.then_ (by rw [hv1]; exact (Below.refl _ _).alloc (Nat.le_refl _) _))
  have HX1 := hid (fun W (hW : Pure v1 W) => hX.pure hW)
  have hsz1 := hid (show wq.heap.size < v1.heap.size from by rw [hv1]; simp)
  have hse1 := hid (show v1.heap.size = wq.heap.size + 1 from by rw [hv1]; simp)
  clear hr hp hf hX
  generalize hn1 : wq.heap.size = na at *
  obtain ⟨hS_0, hS_1, hS_2, hS_3, hS_4⟩ := (hS.out v1 (P1.out.then_ P2.out))
  obtain ⟨HX1_0, HX1_1, HX1_2⟩ := (HX1.out v1 (Below.refl _ _)).cells
  rw [hv1] at hS_0 hS_1 hS_2 hS_3 hS_4 HX1_0 HX1_1 HX1_2
  go_wp2_with fail
  rw [← hv1]
  clear hS_0 hS_1 hS_2 hS_3 hS_4 HX1_0 HX1_1 HX1_2
  clear hv1 hn1
  refine (HB.out v1 (P1.out.then_ P2.out)).mono ?_
  rintro e wq ⟨x0, x1, x2, rfl, hr, hp, hf⟩
  have hX := BX.made hr
  obtain ⟨y20, k20, rfl⟩ := hr.1.shape
  obtain ⟨y21, k21, rfl⟩ := hr.2.1.shape
  obtain ⟨y22, k22, rfl⟩ := hr.2.2.shape
  obtain ⟨v2, hv2⟩ : ∃ W, W = wq.alloc (.cells #[.slice y20 gB.1.length k20, .slice y21 gB.2.1.length k21, .slice y22 gB.2.2.length k22] 31) := ⟨_, rfl⟩
  rw [← hv2] at hX
  have P3 := hid (show Pure v1 v2 from hp.then_ (by rw [hv2]; exact (Below.refl _ _).alloc (Nat.le_refl _) _))
  have HX2 := hid (fun W (hW : Pure v2 W) => hX.pure hW)
  have hsz2 := hid (show wq.heap.size < v2.heap.size from by rw [hv2]; simp)
  have hse2 := hid (show v2.heap.size = wq.heap.size + 1 from by rw [hv2]; simp)
  clear hr hp hf hX
  generalize hn2 : wq.heap.size = nb at *
  obtain ⟨hS_0, hS_1, hS_2, hS_3, hS_4⟩ := (hS.out v2 (P1.out.then_ (P2.out.then_ P3.out)))
  obtain ⟨HX1_0, HX1_1, HX1_2⟩ := (HX1.out v2 P3.out).cells
  obtain ⟨HX2_0, HX2_1, HX2_2⟩ := (HX2.out v2 (Below.refl _ _)).cells
  rw [hv2] at hS_0 hS_1 hS_2 hS_3 hS_4 HX1_0 HX1_1 HX1_2 HX2_0 HX2_1 HX2_2
  go_wp2_with fail
  rw [← hv2]
  clear hS_0 hS_1 hS_2 hS_3 hS_4 HX1_0 HX1_1 HX1_2 HX2_0 HX2_1 HX2_2
  clear hv2 hn2
  generalize Value.slice y10 gA.1.length k10 = z10 at *
  generalize Value.slice y11 gA.2.1.length k11 = z11 at *
  generalize Value.slice y12 gA.2.2.length k12 = z12 at *
  generalize Value.slice y20 gB.1.length k20 = z20 at *
  generalize Value.slice y21 gB.2.1.length k21 = z21 at *
  generalize Value.slice y22 gB.2.2.length k22 = z22 at *
  clear HA HB hS
  have hsn := hid (sends okA.out okB.out)
  have hjj := hid (join_join okA.out okB.out)
  have okJ := hid (okA.out.join okB.out)
  have hsj := hid (sends okB.out okJ.out)
  have okS := hid (bsome_ok okB.out (blacks gB (bmarks gA)))
  have okT := hid (bsome_ok okJ.out (blacks (bjoin gA gB) (bmarks gB)))
  have hll := U64_le
  have hMA := hid (bmarks_small2 okA.out (Nat.le_trans U64_le (by decide)))
  have hMB := hid (bmarks_small2 okB.out (Nat.le_trans U64_le (by decide)))
  have hMJ := hid (bmarks_small2 okJ.out (Nat.le_trans U64_le (by decide)))
  have hL1 := hid (show (blacks gB (bmarks gA)).length ≤ 1000 from by have := blacks_len gB (bmarks gA); have := okB.out.sml.l0; have := okB.out.sml.l1; omega)
  have hL2 := hid (show (blacks (bjoin gA gB) (bmarks gB)).length ≤ 1000 from by have := blacks_len (bjoin gA gB) (bmarks gB); have := okJ.out.sml.l0; have := okJ.out.sml.l1; omega)
  rw [hjj.out] at hsj
  clear hjj hll
  have qa := hid (fun W (hW : Pure v2 W) => smarks_any _ _ _ gA U64 W (HX1.out W (P3.out.then_ hW)).r okA.out (Nat.le_trans U64_le (by decide)))
  have qb := hid (fun W (hW : Pure v2 W) s (hs : Strs W s (bmarks gA)) => slacks_any _ _ _ s gB (bmarks gA) U64 W (HX2.out W hW).r okB.out (Nat.le_trans U64_le (by decide)) hs hMA.out)
  have qc := hid (fun W (hW : Pure v2 W) s (hs : Ints W s (blacks gB (bmarks gA))) => ssome_any _ _ _ s gB (blacks gB (bmarks gA)) U64 W (HX2.out W hW).r okB.out U64_le hs hL1.out)
  unfold StrsO at qa
  unfold IntsO at qb
  unfold BagO at qc
  have Hdr := hid (show Pure v2 v2.drew from (Below.refl _ _).drew)
  generalize bmarks gA = MA at *
  generalize blacks gB MA = LA at *
  generalize bsome gB LA = gS at *
  go_upto_region 4 with fail
  go_cut [8] from 18 (fun pv wx => ∃ (ns : Nat) (x0 x1 x2 : Value), pv = .pointer (some ⟨ns, 0, none⟩) ∧ BX ns x0 x1 x2 gS wx ∧ Pure v2 wx)
  case first =>
    obtain ⟨HX1_0, HX1_1, HX1_2⟩ := (HX1.out v2 P3.out).cells
    obtain ⟨HX2_0, HX2_1, HX2_2⟩ := (HX2.out v2 (Below.refl _ _)).cells
    have hl1 := lt_of_block (HX1.out v2 P3.out).b
    have hl2 := lt_of_block (HX2.out v2 (Below.refl _ _)).b
    have hS1 : Hid (∀ W, Pure v2 W → (W.cell? ⟨na, 0, none⟩ = some z10 ∧ W.cell? ⟨na, 1, none⟩ = some z11 ∧ W.cell? ⟨na, 2, none⟩ = some z12 ∧ W.cell? ⟨nb, 0, none⟩ = some z20 ∧ W.cell? ⟨nb, 1, none⟩ = some z21 ∧ W.cell? ⟨nb, 2, none⟩ = some z22 ∧ Pure v2 W)) := fun W hW => by
      obtain ⟨eHX10, eHX11, eHX12⟩ := (HX1.out W (P3.out.then_ hW)).cells
      obtain ⟨eHX20, eHX21, eHX22⟩ := (HX2.out W hW).cells
      exact ⟨eHX10, eHX11, eHX12, eHX20, eHX21, eHX22, hW⟩
    have hS2 : Hid (∀ W : World, (W.cell? ⟨na, 0, none⟩ = some z10 ∧ W.cell? ⟨na, 1, none⟩ = some z11 ∧ W.cell? ⟨na, 2, none⟩ = some z12 ∧ W.cell? ⟨nb, 0, none⟩ = some z20 ∧ W.cell? ⟨nb, 1, none⟩ = some z21 ∧ W.cell? ⟨nb, 2, none⟩ = some z22 ∧ Pure v2 W) → Pure v2 W) := fun W h => h.2.2.2.2.2.2
    have hst := hid (hS1.out v2.drew (Below.refl _ _).drew)
    have hst2 := hid (fun o => hS1.out (v2.alloc o).drew ((Below.refl _ _).alloc (Nat.le_refl _) o).drew)
    go_region_held3 (fun W => W.cell? ⟨na, 0, none⟩ = some z10 ∧ W.cell? ⟨na, 1, none⟩ = some z11 ∧ W.cell? ⟨na, 2, none⟩ = some z12 ∧ W.cell? ⟨nb, 0, none⟩ = some z20 ∧ W.cell? ⟨nb, 1, none⟩ = some z21 ∧ W.cell? ⟨nb, 2, none⟩ = some z22 ∧ Pure v2 W)
      (first | with_reducible exact hst.out | with_reducible assumption | with_reducible exact hst2.out _ | with_reducible exact hS1.out _ (Pure.then_ (hS2.out _ (by assumption)) (by assumption)) | with_reducible exact hS1.out _ (Pure.then_ (hS2.out _ (by assumption)) (pal _ _)) | exact hS1.out _ (psetz (hS2.out _ (by assumption)) HL.out _ _ _) | exact hS1.out _ (Pure.then_ HPz.out (pal _ _)) | exact hS1.out _ (psetz (hS2.out _ (by assumption)) HLn.out _ _ _))
      ((first
          | (go_at_call 16; (refine (qa.out _ (hS2.out _ (by assumption))).mono ?_); rintro e w7 ⟨s0, rfl, h7, hp7⟩; have HP7 := hid (Pure.then_ (hS2.out _ (by assumption)) hp7))
          | (go_at_call 18; (first | (refine (qb.out _ (hS2.out _ (by assumption)) _ (Row.of_own h7)).mono ?_) | (refine (qb.out _ (hS2.out _ (by assumption)) _ (Row.of_own (own_pure h7 (pal _ _)))).mono ?_)); rintro e w8 ⟨t0, rfl, h8, hp8⟩; have HP8 := hid (Pure.then_ (hS2.out _ (by assumption)) hp8))
          | (go_at_call 24; (first | (refine (qc.out _ (hS2.out _ (by assumption)) _ (Row.of_own h8)).mono ?_) | (refine (qc.out _ (hS2.out _ (by assumption)) _ (Row.of_own (own_pure h8 (pal _ _)))).mono ?_)); rintro e w9 ⟨x0, x1, x2, rfl, h9, hp9, hf9⟩; have HP9 := hid (Pure.then_ (hS2.out _ (by assumption)) hp9); have HL9 := hid HP9.out.size; have HLn := hid HP9.out.size; have HPz := hid HP9.out; obtain ⟨y30, k30, rfl⟩ := h9.1.shape; obtain ⟨y31, k31, rfl⟩ := h9.2.1.shape; obtain ⟨y32, k32, rfl⟩ := h9.2.2.shape; (first | (have hq := (show Pure (w8.alloc ZB) w9 from hp9); have HZ := hid (RsB.pure_ (rsb_new w8) hq); have HL := hid (show v2.heap.size ≤ w8.heap.size from HP8.out.size); have HE := hid (boxset HZ.out h9 hf9 (by simp))) | (have hq := (show Pure (w7.alloc ZB) w8 from hp8); have HZ1 := hid (RsB.pure_ (rsb_new w7) hq); have HZ := hid (RsB.pure_ HZ1.out hp9); have HL := hid (show v2.heap.size ≤ w7.heap.size from HP7.out.size); have HE := hid (boxset HZ.out h9 hf9 (lt_of_block HZ1.out))) | (have hq := (show Pure (v2.alloc ZB).drew w7 from hp7); have HZ0 := hid (RsB.pure_ (show RsB v2.heap.size (v2.alloc ZB).drew from rsb_new v2) hq); have HZ1 := hid (RsB.pure_ HZ0.out hp8); have HZ := hid (RsB.pure_ HZ1.out hp9); have HL := hid (Nat.le_refl v2.heap.size); have HE := hid (boxset HZ.out h9 hf9 (lt_of_block HZ1.out))) | (have HE := hid (BX.made h9))); (first | (obtain ⟨z0, z1, z2, z3, z4, z5⟩ := HZ.out.cells) | skip))))
    all_goals
      have H9 := hid HP9.out
      clear qa qb qc h7 hp7 h8 hp8 h9 hp9 hf9 hst hst2 hS1 hS2
      go_wp2
      go_meet
      (case rel => first | exact ⟨_, _, _, _, rfl, HE.out, psetz H9.out HL.out _ _ _⟩ | exact ⟨_, _, _, _, rfl, HE.out, H9.out.then_ (pal _ _)⟩)
  case rest =>
  obtain ⟨ns, x0, x1, x2, rfl, hX, hpc⟩ := hcut
  obtain ⟨wS, hwS⟩ : ∃ x : World, x = wc := ⟨_, rfl⟩
  subst hwS
  have P4 := hid (show Pure v2 wS from hpc)
  obtain ⟨y30, k30, rfl⟩ := hX.r.1.shape
  obtain ⟨y31, k31, rfl⟩ := hX.r.2.1.shape
  obtain ⟨y32, k32, rfl⟩ := hX.r.2.2.shape
  have HX3 := hid (fun W (hW : Pure wS W) => hX.pure hW)
  clear hX hpc qa qb qc Hdr
  have hg := hid (gather2 (s := (z10, z11, z12)) (t := (.slice y30 gS.1.length k30, .slice y31 gS.2.1.length k31, .slice y32 gS.2.2.length k32)) (HX1.out wS (P3.out.then_ P4.out)).r (HX3.out wS (Below.refl _ _)).r okA.out okS.out U64_le)
  rw [hsn.out] at hg
  unfold BagO at hg
  dsimp only at hg
  generalize hJe : bjoin gA gB = gJ at *
  obtain ⟨HX1_0, HX1_1, HX1_2⟩ := (HX1.out wS (P3.out.then_ P4.out)).cells
  obtain ⟨HX3_0, HX3_1, HX3_2⟩ := (HX3.out wS (Below.refl _ _)).cells
  go_wp2_with fail
  refine (hg.out).mono ?_
  rintro e wq ⟨x0, x1, x2, rfl, hr, hp, hf⟩
  have hX := BX.made hr
  obtain ⟨y40, k40, rfl⟩ := hr.1.shape
  obtain ⟨y41, k41, rfl⟩ := hr.2.1.shape
  obtain ⟨y42, k42, rfl⟩ := hr.2.2.shape
  obtain ⟨v4, hv4⟩ : ∃ W, W = wq.alloc (.cells #[.slice y40 gJ.1.length k40, .slice y41 gJ.2.1.length k41, .slice y42 gJ.2.2.length k42] 31) := ⟨_, rfl⟩
  rw [← hv4] at hX
  clear HX1_0 HX1_1 HX1_2 HX3_0 HX3_1 HX3_2
  have P5 := hid (show Pure wS v4 from hp.then_ (by rw [hv4]; exact (Below.refl _ _).alloc (Nat.le_refl _) _))
  have HX4 := hid (fun W (hW : Pure v4 W) => hX.pure hW)
  have hsz4 := hid (show wq.heap.size < v4.heap.size from by rw [hv4]; simp)
  have hse4 := hid (show v4.heap.size = wq.heap.size + 1 from by rw [hv4]; simp)
  clear hr hp hf hX
  generalize hn4 : wq.heap.size = nj at *
  obtain ⟨HX1_0, HX1_1, HX1_2⟩ := (HX1.out v4 (P3.out.then_ (P4.out.then_ P5.out))).cells
  obtain ⟨HX2_0, HX2_1, HX2_2⟩ := (HX2.out v4 (P4.out.then_ P5.out)).cells
  obtain ⟨HX4_0, HX4_1, HX4_2⟩ := (HX4.out v4 (Below.refl _ _)).cells
  rw [hv4] at HX1_0 HX1_1 HX1_2 HX2_0 HX2_1 HX2_2 HX4_0 HX4_1 HX4_2
  go_wp2_with fail
  rw [← hv4]
  clear HX1_0 HX1_1 HX1_2 HX2_0 HX2_1 HX2_2 HX4_0 HX4_1 HX4_2
  clear hv4 hn4
  generalize Value.slice y40 gJ.1.length k40 = z40 at *
  generalize Value.slice y41 gJ.2.1.length k41 = z41 at *
  generalize Value.slice y42 gJ.2.2.length k42 = z42 at *
  clear hg HX3
  have qa := hid (fun W (hW : Pure v4 W) => rjoin5_any _ _ _ _ _ _ gA gB U64 U64 W (HX1.out W ((P3.out.then_ (P4.out.then_ P5.out)).then_ hW)).r (HX2.out W ((P4.out.then_ P5.out).then_ hW)).r okA.out okB.out U64_le U64_le)
  rw [hJe] at qa
  have qs := hid (fun W (hW : Pure v4 W) s0 s1 s2 (hs : BR3 s0 s1 s2 gJ W) => rsameP (HX4.out W hW).r hs)
  unfold BagO at qa
  have hS1 : Hid (∀ W, Pure v4 W → (W.cell? ⟨na, 0, none⟩ = some z10 ∧ W.cell? ⟨na, 1, none⟩ = some z11 ∧ W.cell? ⟨na, 2, none⟩ = some z12 ∧ W.cell? ⟨nb, 0, none⟩ = some z20 ∧ W.cell? ⟨nb, 1, none⟩ = some z21 ∧ W.cell? ⟨nb, 2, none⟩ = some z22 ∧ W.cell? ⟨nj, 0, none⟩ = some z40 ∧ W.cell? ⟨nj, 1, none⟩ = some z41 ∧ W.cell? ⟨nj, 2, none⟩ = some z42 ∧ Pure v4 W)) := fun W hW => by
    obtain ⟨eHX10, eHX11, eHX12⟩ := (HX1.out W ((P3.out.then_ (P4.out.then_ P5.out)).then_ hW)).cells
    obtain ⟨eHX20, eHX21, eHX22⟩ := (HX2.out W ((P4.out.then_ P5.out).then_ hW)).cells
    obtain ⟨eHX40, eHX41, eHX42⟩ := (HX4.out W hW).cells
    exact ⟨eHX10, eHX11, eHX12, eHX20, eHX21, eHX22, eHX40, eHX41, eHX42, hW⟩
  have hS2 : Hid (∀ W : World, (W.cell? ⟨na, 0, none⟩ = some z10 ∧ W.cell? ⟨na, 1, none⟩ = some z11 ∧ W.cell? ⟨na, 2, none⟩ = some z12 ∧ W.cell? ⟨nb, 0, none⟩ = some z20 ∧ W.cell? ⟨nb, 1, none⟩ = some z21 ∧ W.cell? ⟨nb, 2, none⟩ = some z22 ∧ W.cell? ⟨nj, 0, none⟩ = some z40 ∧ W.cell? ⟨nj, 1, none⟩ = some z41 ∧ W.cell? ⟨nj, 2, none⟩ = some z42 ∧ Pure v4 W) → Pure v4 W) := fun W h => h.2.2.2.2.2.2.2.2.2
  have hst := hid (hS1.out v4.drew (Below.refl _ _).drew)
  go_wp2_with fail
  go_region_held3 (fun W => W.cell? ⟨na, 0, none⟩ = some z10 ∧ W.cell? ⟨na, 1, none⟩ = some z11 ∧ W.cell? ⟨na, 2, none⟩ = some z12 ∧ W.cell? ⟨nb, 0, none⟩ = some z20 ∧ W.cell? ⟨nb, 1, none⟩ = some z21 ∧ W.cell? ⟨nb, 2, none⟩ = some z22 ∧ W.cell? ⟨nj, 0, none⟩ = some z40 ∧ W.cell? ⟨nj, 1, none⟩ = some z41 ∧ W.cell? ⟨nj, 2, none⟩ = some z42 ∧ Pure v4 W)
    (first | with_reducible exact hst.out | with_reducible assumption | with_reducible exact hS1.out _ (Pure.then_ (hS2.out _ (by assumption)) (by assumption)))
    ((first
      | (go_at_call 28; ((refine (qa.out _ (hS2.out _ (by assumption))).mono ?_)); rintro e w7 ⟨s0, s1, s2, rfl, h7, hp7, _⟩)
      | (go_at_call 12; ((refine (qs.out _ (hS2.out _ (by assumption)) _ _ _ h7).mono ?_)); rintro e w19 ⟨rfl, hp9⟩)))
  have P6 := hid (show Pure v4 w19 from hS2.out w19 (by assumption))
  clear hst hS1 hS2
  clear h7 hp7 hp9 qa qs
  have qa := hid (fun W (hW : Pure w19 W) => smarks_any _ _ _ gB U64 W (HX2.out W ((P4.out.then_ (P5.out.then_ P6.out)).then_ hW)).r okB.out (Nat.le_trans U64_le (by decide)))
  have qb := hid (fun W (hW : Pure w19 W) s (hs : Strs W s (bmarks gB)) => slacks_any _ _ _ s gJ (bmarks gB) U64 W (HX4.out W (P6.out.then_ hW)).r okJ.out (Nat.le_trans U64_le (by decide)) hs hMB.out)
  have qc := hid (fun W (hW : Pure w19 W) s (hs : Ints W s (blacks gJ (bmarks gB))) => ssome_any _ _ _ s gJ (blacks gJ (bmarks gB)) U64 W (HX4.out W (P6.out.then_ hW)).r okJ.out U64_le hs hL2.out)
  unfold StrsO at qa
  unfold IntsO at qb
  unfold BagO at qc
  have Hdr := hid (show Pure w19 w19.drew from (Below.refl _ _).drew)
  generalize bmarks gB = MB at *
  generalize blacks gJ MB = LB at *
  generalize bsome gJ LB = gT at *
  go_upto_region 7 with fail
  go_cut [11] from 33 (fun pv wx => ∃ (nk : Nat) (x0 x1 x2 : Value), pv = .pointer (some ⟨nk, 0, none⟩) ∧ BX nk x0 x1 x2 gJ wx ∧ Pure w19 wx)
  case first =>
    obtain ⟨HX2_0, HX2_1, HX2_2⟩ := (HX2.out w19 (P4.out.then_ (P5.out.then_ P6.out))).cells
    obtain ⟨HX4_0, HX4_1, HX4_2⟩ := (HX4.out w19 P6.out).cells
    have hl2 := lt_of_block (HX2.out w19 (P4.out.then_ (P5.out.then_ P6.out))).b
    have hl4 := lt_of_block (HX4.out w19 P6.out).b
    skip
    have hS1 : Hid (∀ W, Pure w19 W → (W.cell? ⟨nb, 0, none⟩ = some z20 ∧ W.cell? ⟨nb, 1, none⟩ = some z21 ∧ W.cell? ⟨nb, 2, none⟩ = some z22 ∧ W.cell? ⟨nj, 0, none⟩ = some z40 ∧ W.cell? ⟨nj, 1, none⟩ = some z41 ∧ W.cell? ⟨nj, 2, none⟩ = some z42 ∧ Pure w19 W)) := fun W hW => by
      obtain ⟨eHX20, eHX21, eHX22⟩ := (HX2.out W ((P4.out.then_ (P5.out.then_ P6.out)).then_ hW)).cells
      obtain ⟨eHX40, eHX41, eHX42⟩ := (HX4.out W (P6.out.then_ hW)).cells
      exact ⟨eHX20, eHX21, eHX22, eHX40, eHX41, eHX42, hW⟩
    have hS2 : Hid (∀ W : World, (W.cell? ⟨nb, 0, none⟩ = some z20 ∧ W.cell? ⟨nb, 1, none⟩ = some z21 ∧ W.cell? ⟨nb, 2, none⟩ = some z22 ∧ W.cell? ⟨nj, 0, none⟩ = some z40 ∧ W.cell? ⟨nj, 1, none⟩ = some z41 ∧ W.cell? ⟨nj, 2, none⟩ = some z42 ∧ Pure w19 W) → Pure w19 W) := fun W h => h.2.2.2.2.2.2
    have hst := hid (hS1.out w19.drew (Below.refl _ _).drew)
    have hst2 := hid (fun o => hS1.out (w19.alloc o).drew ((Below.refl _ _).alloc (Nat.le_refl _) o).drew)
    go_region_held3 (fun W => W.cell? ⟨nb, 0, none⟩ = some z20 ∧ W.cell? ⟨nb, 1, none⟩ = some z21 ∧ W.cell? ⟨nb, 2, none⟩ = some z22 ∧ W.cell? ⟨nj, 0, none⟩ = some z40 ∧ W.cell? ⟨nj, 1, none⟩ = some z41 ∧ W.cell? ⟨nj, 2, none⟩ = some z42 ∧ Pure w19 W)
      (first | with_reducible exact hst.out | with_reducible assumption | with_reducible exact hst2.out _ | with_reducible exact hS1.out _ (Pure.then_ (hS2.out _ (by assumption)) (by assumption)) | with_reducible exact hS1.out _ (Pure.then_ (hS2.out _ (by assumption)) (pal _ _)) | exact hS1.out _ (psetz (hS2.out _ (by assumption)) HL.out _ _ _) | exact hS1.out _ (Pure.then_ HPz.out (pal _ _)) | exact hS1.out _ (psetz (hS2.out _ (by assumption)) HLn.out _ _ _))
      ((first
          | (go_at_call 16; (refine (qa.out _ (hS2.out _ (by assumption))).mono ?_); rintro e w7 ⟨s0, rfl, h7, hp7⟩; have HP7 := hid (Pure.then_ (hS2.out _ (by assumption)) hp7))
          | (go_at_call 18; (first | (refine (qb.out _ (hS2.out _ (by assumption)) _ (Row.of_own h7)).mono ?_) | (refine (qb.out _ (hS2.out _ (by assumption)) _ (Row.of_own (own_pure h7 (pal _ _)))).mono ?_)); rintro e w8 ⟨t0, rfl, h8, hp8⟩; have HP8 := hid (Pure.then_ (hS2.out _ (by assumption)) hp8))
          | (go_at_call 24; (first | (refine (qc.out _ (hS2.out _ (by assumption)) _ (Row.of_own h8)).mono ?_) | (refine (qc.out _ (hS2.out _ (by assumption)) _ (Row.of_own (own_pure h8 (pal _ _)))).mono ?_)); rintro e w9 ⟨x0, x1, x2, rfl, h9, hp9, hf9⟩; have HP9 := hid (Pure.then_ (hS2.out _ (by assumption)) hp9); have HL9 := hid HP9.out.size; have HLn := hid HP9.out.size; have HPz := hid HP9.out; obtain ⟨y30, k30, rfl⟩ := h9.1.shape; obtain ⟨y31, k31, rfl⟩ := h9.2.1.shape; obtain ⟨y32, k32, rfl⟩ := h9.2.2.shape)
          | (go_at_call 26; (with_reducible refine (gather2P (W := w9) (s0 := z20) (s1 := z21) (s2 := z22) _ rfl (Below.refl _ _) (HX2.out _ ((P4.out.then_ (P5.out.then_ P6.out)).then_ HP9.out)).r h9 okB.out okT.out U64_le).mono ?_); rw [hsj.out]; rintro e wg ⟨x0, x1, x2, rfl, hg, hpg, hfg⟩; have HPg := hid (Pure.then_ (hS2.out _ (by assumption)) hpg); have HLn := hid HPg.out.size; have HPz := hid HPg.out; obtain ⟨y50, k50, rfl⟩ := hg.1.shape; obtain ⟨y51, k51, rfl⟩ := hg.2.1.shape; obtain ⟨y52, k52, rfl⟩ := hg.2.2.shape; (first | (have hq := (show Pure (w8.alloc ZB) w9 from hp9); have HZ1 := hid (RsB.pure_ (rsb_new w8) hq); have HL := hid (show w19.heap.size ≤ w8.heap.size from HP8.out.size)) | (have hq := (show Pure (w7.alloc ZB) w8 from hp8); have HZ0 := hid (RsB.pure_ (rsb_new w7) hq); have HZ1 := hid (RsB.pure_ HZ0.out hp9); have HL := hid (show w19.heap.size ≤ w7.heap.size from HP7.out.size)) | (have hq := (show Pure (w19.alloc ZB).drew w7 from hp7); have HZa := hid (RsB.pure_ (show RsB w19.heap.size (w19.alloc ZB).drew from rsb_new w19) hq); have HZ0 := hid (RsB.pure_ HZa.out hp8); have HZ1 := hid (RsB.pure_ HZ0.out hp9); have HL := hid (Nat.le_refl w19.heap.size)) | skip); (first | (have HZ2 := hid (RsB.pure_ HZ1.out (pal w9 (.cells #[z20, z21, z22, .slice y30 gT.1.length k30, .slice y31 gT.2.1.length k31, .slice y32 gT.2.2.length k32] 31))); have hlz := lt_of_block HZ2.out; have HZ := hid (RsB.pure_ HZ2.out hpg); have HE := hid (boxset HZ.out hg hfg hlz); obtain ⟨z0, z1, z2, z3, z4, z5⟩ := HZ.out.cells) | (have HE := hid (BX.made hg))))
          | (go_at_call 26; (with_reducible refine (gather2P (W := w9) (s0 := z20) (s1 := z21) (s2 := z22) _ rfl (pal _ ZB) (HX2.out _ ((P4.out.then_ (P5.out.then_ P6.out)).then_ HP9.out)).r h9 okB.out okT.out U64_le).mono ?_); rw [hsj.out]; rintro e wg ⟨x0, x1, x2, rfl, hg, hpg, hfg⟩; have HPg := hid (Pure.then_ (hS2.out _ (by assumption)) hpg); have HLn := hid HPg.out.size; have HPz := hid HPg.out; obtain ⟨y50, k50, rfl⟩ := hg.1.shape; obtain ⟨y51, k51, rfl⟩ := hg.2.1.shape; obtain ⟨y52, k52, rfl⟩ := hg.2.2.shape; have HZ1 := hid (show RsB (w9.heap.size + 1) ((w9.alloc (.cells #[z20, z21, z22, .slice y30 gT.1.length k30, .slice y31 gT.2.1.length k31, .slice y32 gT.2.2.length k32] 31)).alloc ZB) from by have := rsb_new (w9.alloc (.cells #[z20, z21, z22, .slice y30 gT.1.length k30, .slice y31 gT.2.1.length k31, .slice y32 gT.2.2.length k32] 31)); rwa [World.size_alloc] at this); have hlz := lt_of_block HZ1.out; have HZ := hid (RsB.pure_ HZ1.out hpg); have HL := hid (show w19.heap.size ≤ w9.heap.size + 1 from Nat.le_succ_of_le HP9.out.size); have HE := hid (boxset HZ.out hg hfg hlz); obtain ⟨z0, z1, z2, z3, z4, z5⟩ := HZ.out.cells)
          | (go_at_call 26; (with_reducible refine (gather2P (W := w9.alloc ZB) (s0 := z20) (s1 := z21) (s2 := z22) _ (by simp) (Below.refl _ _) ((HX2.out _ ((P4.out.then_ (P5.out.then_ P6.out)).then_ HP9.out)).r.pure (pal _ ZB)) (h9.pure (pal _ ZB)) okB.out okT.out U64_le).mono ?_); rw [hsj.out]; rintro e wg ⟨x0, x1, x2, rfl, hg, hpg, hfg⟩; have HPg := hid (Pure.then_ (hS2.out _ (by assumption)) hpg); have HLn := hid HPg.out.size; have HPz := hid HPg.out; obtain ⟨y50, k50, rfl⟩ := hg.1.shape; obtain ⟨y51, k51, rfl⟩ := hg.2.1.shape; obtain ⟨y52, k52, rfl⟩ := hg.2.2.shape; have HZ1 := hid (RsB.pure_ (rsb_new w9) (pal (w9.alloc ZB) (.cells #[z20, z21, z22, .slice y30 gT.1.length k30, .slice y31 gT.2.1.length k31, .slice y32 gT.2.2.length k32] 31))); have hlz := lt_of_block HZ1.out; have HZ := hid (RsB.pure_ HZ1.out hpg); have HL := hid (show w19.heap.size ≤ w9.heap.size from HP9.out.size); have HE := hid (boxset HZ.out hg hfg hlz); obtain ⟨z0, z1, z2, z3, z4, z5⟩ := HZ.out.cells)))
    all_goals
      have H9 := hid HPg.out
      clear qa qb qc h7 hp7 h8 hp8 h9 hp9 hf9 hg hpg hfg hst hst2 hS1 hS2
      go_wp2
      go_meet
      (case rel => first | exact ⟨_, _, _, _, rfl, HE.out, psetz H9.out HL.out _ _ _⟩ | exact ⟨_, _, _, _, rfl, HE.out, H9.out.then_ (pal _ _)⟩)
  case rest =>
  obtain ⟨nk, x0, x1, x2, rfl, hX, hpc⟩ := hcut
  have P7 := hid (show Pure w19 wc from hpc)
  obtain ⟨y50, k50, rfl⟩ := hX.r.1.shape
  obtain ⟨y51, k51, rfl⟩ := hX.r.2.1.shape
  obtain ⟨y52, k52, rfl⟩ := hX.r.2.2.shape
  have HX5 := hid (fun W (hW : Pure wc W) => hX.pure hW)
  clear hX hpc qa qb qc Hdr
  generalize Value.slice y50 gJ.1.length k50 = z50 at *
  generalize Value.slice y51 gJ.2.1.length k51 = z51 at *
  generalize Value.slice y52 gJ.2.2.length k52 = z52 at *
  obtain ⟨HX4_0, HX4_1, HX4_2⟩ := (HX4.out wc (P6.out.then_ P7.out)).cells
  obtain ⟨HX5_0, HX5_1, HX5_2⟩ := (HX5.out wc (Below.refl _ _)).cells
  go_wp2_with fail
  refine (rsameP (HX5.out wc (Below.refl _ _)).r (HX4.out wc (P6.out.then_ P7.out)).r).mono ?_
  rintro e w25 ⟨rfl, hp⟩
  clear HX4_0 HX4_1 HX4_2 HX5_0 HX5_1 HX5_2
  have P8 := hid (show Pure wc w25 from hp)
  clear hp
  have qd := hid (fun W (hW : Pure w25 W) => noDiffer (HX5.out W (P8.out.then_ hW)).r (HX4.out W ((P6.out.then_ (P7.out.then_ P8.out)).then_ hW)).r okJ.out)
  have qm := hid (fun W (hW : Pure w25 W) => smarks_any _ _ _ gJ U64 W (HX4.out W ((P6.out.then_ (P7.out.then_ P8.out)).then_ hW)).r okJ.out (Nat.le_trans U64_le (by decide)))
  have ql := hid (fun W (hW : Pure w25 W) s (hs : Strs W s (bmarks gJ)) => noLacks (HX5.out W (P8.out.then_ hW)).r hs okJ.out)
  unfold StrsO at qm
  generalize bmarks gJ = MJ at *
  have hS1 : Hid (∀ W, Pure w25 W → (W.cell? ⟨nj, 0, none⟩ = some z40 ∧ W.cell? ⟨nj, 1, none⟩ = some z41 ∧ W.cell? ⟨nj, 2, none⟩ = some z42 ∧ W.cell? ⟨nk, 0, none⟩ = some z50 ∧ W.cell? ⟨nk, 1, none⟩ = some z51 ∧ W.cell? ⟨nk, 2, none⟩ = some z52 ∧ Pure w25 W)) := fun W hW => by
    obtain ⟨eHX40, eHX41, eHX42⟩ := (HX4.out W ((P6.out.then_ (P7.out.then_ P8.out)).then_ hW)).cells
    obtain ⟨eHX50, eHX51, eHX52⟩ := (HX5.out W (P8.out.then_ hW)).cells
    exact ⟨eHX40, eHX41, eHX42, eHX50, eHX51, eHX52, hW⟩
  have hS2 : Hid (∀ W : World, (W.cell? ⟨nj, 0, none⟩ = some z40 ∧ W.cell? ⟨nj, 1, none⟩ = some z41 ∧ W.cell? ⟨nj, 2, none⟩ = some z42 ∧ W.cell? ⟨nk, 0, none⟩ = some z50 ∧ W.cell? ⟨nk, 1, none⟩ = some z51 ∧ W.cell? ⟨nk, 2, none⟩ = some z52 ∧ Pure w25 W) → Pure w25 W) := fun W h => h.2.2.2.2.2.2
  have hst := hid (hS1.out w25.drew (Below.refl _ _).drew)
  go_wp2_with fail
  go_region_held3 (fun W => W.cell? ⟨nj, 0, none⟩ = some z40 ∧ W.cell? ⟨nj, 1, none⟩ = some z41 ∧ W.cell? ⟨nj, 2, none⟩ = some z42 ∧ W.cell? ⟨nk, 0, none⟩ = some z50 ∧ W.cell? ⟨nk, 1, none⟩ = some z51 ∧ W.cell? ⟨nk, 2, none⟩ = some z52 ∧ Pure w25 W)
    (first | with_reducible exact hst.out | with_reducible assumption | with_reducible exact hS1.out _ (Pure.then_ (hS2.out _ (by assumption)) (by assumption)))
    ((first
      | (go_at_call 11; ((refine (qd.out _ (hS2.out _ (by assumption))).mono ?_)); rintro e w26 ⟨a1, c1, rfl, hp6⟩)
      | (go_at_call 16; ((refine (qm.out _ (hS2.out _ (by assumption))).mono ?_)); rintro e w27 ⟨s0, rfl, h7, hp7⟩)
      | (go_at_call 18; (first | (refine (ql.out _ (hS2.out _ (by assumption)) _ (Row.of_own h7)).mono ?_) | (refine (ql.out _ (hS2.out _ (by assumption)) _ (Row.of_own (own_pure h7 hp6))).mono ?_)); rintro e w28 ⟨a2, c2, rfl, hp8⟩)))
  have P9 := hid (show Pure w25 w28 from hS2.out w28 (by assumption))
  clear hst hS1 hS2
  go_wp2
  go_ret
  exact ⟨rfl, Hpz.out.then_ (P1.out.then_ (P2.out.then_ (P3.out.then_ (P4.out.then_ (P5.out.then_ (P6.out.then_ (P7.out.then_ (P8.out.then_ P9.out))))))))⟩
end Go.Proofs.YtcjggofcmjpfnaaGreat
