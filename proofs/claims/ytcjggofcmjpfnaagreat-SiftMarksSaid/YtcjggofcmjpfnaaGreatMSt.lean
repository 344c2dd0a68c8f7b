/- Messages and plans that came in, read to their cells. SiftMarks. -/
import Derived.Test.YtcjggofcmjpfnaaGreatLO
import Derived.Test.YtcjggofcmjpfnaaGreatMSi
import Derived.Test.YtcjggofcmjpfnaaGreatMSk
import Derived.Deep.CutBlock
namespace Go.Proofs.YtcjggofcmjpfnaaGreat
open Go.RowKit Go.Maps Go.ChangeShapes Go.WideShapes Go.Deep

theorem bs_of (B : ByteArray) : ∃ l, B = bs l := ⟨B.data.toList, by cases B; simp [bs]⟩
theorem msg_cells {H : Type} {enc : TypeId × Value → H} {W : World} {base : Nat} {held : Bool} {fuel : Nat} {x : DataW H × List MemPlace} {c0 c1 c2 c3 c4 : Value}
    (h : DataW.trod enc Tryz.prog W base (fun _ => true) held fuel 57 [c0, c1, c2, c3, c4] = some x) : ∃ m : Msg, c0 = .int .i64 m.1.1 ∧ c1 = .int .i64 m.1.2 ∧ c2 = .string (bs m.2.1) ∧ c3 = .string (bs m.2.2.1) ∧ c4 = .int .i64 m.2.2.2 := by
  have hC3 : Tryz.prog.cellsOf 3 = 1 := by kernel_rfl
  have hC9 : Tryz.prog.cellsOf 9 = 1 := by kernel_rfl
  have hCd : Tryz.prog.cellsOf 55 = 2 := by kernel_rfl
  obtain ⟨ys, n', _, _, _, hyl, hg⟩ := DataW.trod_struct Tryz.underlying57 h
  match ys, hyl with
  | [y0, y1, y2, y3], _ =>
    have g0 : DataW.trod enc Tryz.prog W base (fun _ => true) held n' 55 (List.take (Tryz.prog.cellsOf 55) [c0, c1, c2, c3, c4]) = some y0 := hg 0 _ rfl
    have g1 : DataW.trod enc Tryz.prog W base (fun _ => true) held n' 9 (List.take (Tryz.prog.cellsOf 9) [c2, c3, c4]) = some y1 := hg 1 _ rfl
    have g2 : DataW.trod enc Tryz.prog W base (fun _ => true) held n' 9 (List.take (Tryz.prog.cellsOf 9) [c3, c4]) = some y2 := hg 2 _ rfl
    have g3 : DataW.trod enc Tryz.prog W base (fun _ => true) held n' 3 (List.take (Tryz.prog.cellsOf 3) [c4]) = some y3 := hg 3 _ rfl
    rw [hCd] at g0
    rw [hC9] at g1 g2
    rw [hC3] at g3
    simp only [List.take_succ_cons, List.take_zero] at g0 g1 g2 g3
    obtain ⟨d, rfl, rfl⟩ := dot_cells g0
    obtain ⟨q, e1, _⟩ := DataW.trod_string Tryz.underlying9 g1
    obtain ⟨b, e2, _⟩ := DataW.trod_string Tryz.underlying9 g2
    obtain ⟨z, e3, _⟩ := DataW.trod_int Tryz.underlying3 g3
    simp only [List.cons.injEq, and_true] at e1 e2 e3
    obtain ⟨lq, rfl⟩ := bs_of q
    obtain ⟨lb, rfl⟩ := bs_of b
    exact ⟨(d, lq, lb, z), rfl, rfl, e1, e2, e3⟩
set_option maxRecDepth 8000 in
set_option maxHeartbeats 1000000 in
theorem msgs_cell {H : Type} {enc : TypeId × Value → H} {W : World} {base : Nat} {held : Bool} {fuel : Nat} {x : DataW H × List MemPlace} {v : Value}
    (h : DataW.trod enc Tryz.prog W base (fun _ => true) held fuel 22 [v] = some x) : ∃ l, Msgs W v l := by
  rcases open_slice Tryz.underlying22 h with ⟨hcs, _⟩ | ⟨ad, len, cap', m, n, D, Pl, hcs, _, hl, hm, hmm, _, hi⟩
  · simp at hcs
    subst hcs
    exact ⟨[], Row.nil _ _⟩
  · simp at hcs
    subst hcs
    simp only [if_true] at hmm
    subst hmm
    have hC : Tryz.prog.cellsOf 57 = 5 := by kernel_rfl
    obtain ⟨f, hf⟩ := choose_lt (α := Msg) (n := m) (p := fun k t => ∀ j, j < 5 → W.cell? (ad.add (k * 5 + j)) = (mcells t)[j]?) (fun k hk => by
      obtain ⟨cs', hc, ht⟩ := hi k hk
      rw [hC] at hc
      obtain ⟨_, hcl, hat⟩ := World.cells?_some hc
      match cs', hcl with
      | [c0, c1, c2, c3, c4], _ =>
        obtain ⟨z, rfl, rfl, rfl, rfl, rfl⟩ := msg_cells ht
        refine ⟨z, fun j hj => ?_⟩
        have a0 := hat j hj
        rw [Go.Deep.add_add] at a0
        rw [a0]; rfl)
    have hll : ((List.range len).map f).length = len := by simp
    refine ⟨(List.range len).map f, ?_⟩
    unfold Msgs
    rw [hll]
    refine ⟨by rw [mvs_len, hll], some ad, m, rfl, hl, hm, ?_⟩
    by_cases h0 : m = 0
    · exact .inl h0
    · right
      obtain ⟨b, off, spot⟩ := ad
      have hb0 := hf 0 (by omega) 0 (by decide)
      have hb1 : W.cell? (Addr.add ⟨b, off, spot⟩ (0 * 5 + 0)) = some (.int .i64 (f 0).1.1) := hb0
      have hspot : spot = none := by simpa [Addr.add] using World.cell?_spot hb1
      subst hspot
      rw [Addr.add_lit] at hb1
      refine ⟨b, off, rfl, World.block_lt_of_cell? W _ hb1, fun i hi' => ?_⟩
      have hk : i / 5 < len := by omega
      have d0 := mvs_get ((List.range len).map f) (i / 5) (by rw [hll]; exact hk) (i % 5) (by omega)
      have e : ((List.range len).map f).getD (i / 5) m0 = f (i / 5) := by simp [List.getD, hk]
      rw [e] at d0
      have c0 := hf (i / 5) (by omega) (i % 5) (by omega)
      rw [Addr.add_lit] at c0
      have ei : i / 5 * 5 + i % 5 = i := by omega
      rw [ei] at d0 c0
      rw [d0]; exact c0
set_option maxRecDepth 8000 in
theorem plan_of_trod {H : Type} {enc : TypeId × Value → H} {W : World} {base : Nat} {held : Bool} {r : Reach} {b0 : Nat} {v : Value} {d : DataW H} {p : List MemPlace}
    (hv : Value.okWide Tryz.prog W r b0 25 v) (h : DataW.Trod enc Tryz.prog W base (fun _ => true) held 25 v d p) : ∃ (u0 u1 : Value) (M : List Msg) (G : List Bool), v = .agg #[u0, u1] ∧ PlanV W u0 u1 M G := by
  obtain ⟨cs, rfl, hsz⟩ := okWide_struct Tryz.underlying25 hv
  have hC : Tryz.prog.cellsOf 25 = 2 := by kernel_rfl
  have hC1 : Tryz.prog.cellsOf 22 = 1 := by kernel_rfl
  have hC2 : Tryz.prog.cellsOf 23 = 1 := by kernel_rfl
  obtain ⟨l⟩ := cs
  match l, hsz.trans hC with
  | [c0, c1], _ =>
    obtain ⟨fuel, hf⟩ := h
    obtain ⟨ys, n', _, _, _, hyl, hg⟩ := DataW.trod_struct Tryz.underlying25 hf
    match ys, hyl with
    | [y0, y1], _ =>
      have g0 : DataW.trod enc Tryz.prog W base (fun _ => true) held n' 22 (List.take (Tryz.prog.cellsOf 22) [c0, c1]) = some y0 := hg 0 _ rfl
      have g1 : DataW.trod enc Tryz.prog W base (fun _ => true) held n' 23 (List.take (Tryz.prog.cellsOf 23) [c1]) = some y1 := hg 1 _ rfl
      rw [hC1] at g0
      rw [hC2] at g1
      simp only [List.take_succ_cons, List.take_zero] at g0 g1
      obtain ⟨M, hM⟩ := msgs_cell g0
      obtain ⟨G, a, n, c, e, hG⟩ : ∃ G a n c, c1 = .slice a n c ∧ BoolsAt W a n c G := by
        rcases open_bools Tryz.underlying23 Tryz.underlying4 (by kernel_rfl) g1 with ⟨hcs, _⟩ | ⟨ad, len', cap', B, hcs, _⟩
        · simp at hcs
          subst hcs
          obtain ⟨G, hG⟩ := bools_of_trod g1
          exact ⟨G, _, _, _, rfl, hG⟩
        · simp at hcs
          subst hcs
          obtain ⟨G, hG⟩ := bools_of_trod g1
          exact ⟨G, _, _, _, rfl, hG⟩
      exact ⟨c0, c1, M, G, rfl, hM, a, n, c, e, hG⟩
theorem differs_go (u0 t0 : Value) (M0 : List Msg) (G0 : List Bool) (u1 t1 : Value) (M1 : List Msg) (G1 : List Bool) (one : Bool) (w : World) (hp : PlanV w u0 t0 M0 G0) (hq : PlanV w u1 t1 M1 G1) :
    Calls Tryz.prog 3 #[.agg #[u0, t0], .agg #[u1, t1], .bool one] w fun e w' => e = .returned (.bool true) ∧ Pure w w' := differs_walk u0 t0 u1 t1 M0 M1 G0 G1 one w hp hq
end Go.Proofs.YtcjggofcmjpfnaaGreat

namespace Go.Proofs.YtcjggofcmjpfnaaGreat
open Go.RowKit Go.Maps Go.Shelf Go.Sort

theorem take40 (l : List UInt8) : ByteArray.extract (bs l) 0 40 = bs (l.take 40) := by
  apply ByteArray.ext
  simp [bs, ByteArray.data_extract]
theorem TO.app2 {base : Nat} {v : Value} {wb W Wa W' : World} (hb : base = wb.heap.size) (hW : Pure wb W) {Y : List (List UInt8)} (h : TO base v Y Wa) (hp : Pure W Wa) (hk : Kept (fun j => v.rb = some j) Wa W') : Pure wb W' := by
  subst hb
  have h1 : Kept (fun j => wb.heap.size ≤ j) wb W' := (Pure.kept (hW.then_ hp)).trans (hk.mono (fun j _ e => (h.lt j e).1))
  exact h1.below (Nat.le_refl _) (fun j hj e => by omega)
theorem isameL {v u : Value} {l : List Int} {W : World} (hv : Ints W v l) (hu : Ints W u l) : Calls Tryz.prog 17 #[v, u] W fun e w' => e = .returned (.bool true) ∧ Pure W w' := by
  have := same_any v u l l W hv hu
  rw [decide_eq_true rfl] at this
  exact this
theorem tsameL {v u : Value} {l : List (List UInt8)} {W : World} (hv : Strs W v l) (hu : Strs W u l) : Calls Tryz.prog 15 #[v, u] W fun e w' => e = .returned (.bool true) ∧ Pure W w' := by
  have := rstexts_any v u l l W hv hu
  rw [decide_eq_true rfl] at this
  exact this

theorem U64_le : U64.length ≤ 200 := by rw [U64_len]; decide
theorem bmarks_small {U : List Dot} {g : Bag} (hg : BOk U g) (hU : U.length ≤ 2000) : (∀ s ∈ bmarks g, s.length ≤ maxLen) ∧ (bmarks g).length ≤ 5000 := by
  constructor
  · intro s hs
    obtain ⟨x, _, rfl⟩ := List.mem_map.1 hs
    exact bmark_len hg (by omega) x
  · unfold bmarks
    rw [List.length_map]
    have := cnodes_len' g.2.1 g.2.2
    have := hg.sml.l0; have := hg.sml.l1; omega
theorem str_lit0 (w : World) (s : List UInt8) : (w.alloc (.cells #[.string (bs s)] 9)).cell? ((⟨w.heap.size, 0, none⟩ : Addr).add 0) = some (.string (bs s)) := by
  rw [Addr.add_lit, World.cell?_alloc_new]; simp

set_option maxRecDepth 8000 in
set_option maxHeartbeats 8000000 in
theorem marks_walk (a0 a1 b0 b1 v : Value) (M K : List Msg) (G H : List Bool) (own : Bool) (n : Int) (X : List (List UInt8)) (w : World) (hp : PlanV w a0 a1 M G) (hq : PlanV w b0 b1 K H) (hv : Strs w v X) :
    Calls Tryz.prog 4 #[.agg #[a0, a1], .agg #[b0, b1], .agg #[.bool own, .int .i64 n, v]] w fun e w' => e = .returned (.bool true) ∧ Pure w w' := by
  obtain ⟨wz, hwz⟩ : ∃ wz, wz = ((w.alloc (.cells #[a0, a1] 25)).alloc (.cells #[b0, b1] 25)).alloc (.cells #[.bool own, .int .i64 n, v] 40) := ⟨_, rfl⟩
  have Hpz := hid (show Pure w wz from by rw [hwz]; exact (((Below.refl _ _).alloc (Nat.le_refl _) _).alloc (by simp) _).alloc (by simp; omega) _)
  have hS : Hid (∀ W, Pure wz W → (W.cell? ⟨w.heap.size, 0, none⟩ = some a0 ∧ W.cell? ⟨w.heap.size, 1, none⟩ = some a1 ∧ W.cell? ⟨w.heap.size + 1, 0, none⟩ = some b0 ∧ W.cell? ⟨w.heap.size + 1, 1, none⟩ = some b1 ∧ W.cell? ⟨w.heap.size + 1 + 1, 0, none⟩ = some (.bool own) ∧ W.cell? ⟨w.heap.size + 1 + 1, 1, none⟩ = some (.int .i64 n) ∧ W.cell? ⟨w.heap.size + 1 + 1, 2, none⟩ = some v)) := fun W hW => by
    have n0 : wz.heap[w.heap.size]? = some (.cells #[a0, a1] 25 (0, 0)) := by rw [hwz]; exact block_alloc_old (block_alloc_old (block_alloc_new _ _) _) _
    have n1 : wz.heap[w.heap.size + 1]? = some (.cells #[b0, b1] 25 (0, 0)) := by
      have := block_alloc_new (w.alloc (.cells #[a0, a1] 25)) (.cells #[b0, b1] 25)
      rw [World.size_alloc] at this
      rw [hwz]; exact block_alloc_old this _
    have n2 : wz.heap[w.heap.size + 1 + 1]? = some (.cells #[.bool own, .int .i64 n, v] 40 (0, 0)) := by
      have := block_alloc_new ((w.alloc (.cells #[a0, a1] 25)).alloc (.cells #[b0, b1] 25)) (.cells #[.bool own, .int .i64 n, v] 40)
      rw [World.size_alloc, World.size_alloc] at this
      rw [hwz]; exact this
    have e0 := (hW.block _ (lt_of_block n0)).trans n0
    have e1 := (hW.block _ (lt_of_block n1)).trans n1
    have e2 := (hW.block _ (lt_of_block n2)).trans n2
    exact ⟨cell_of_block e0 0, cell_of_block e0 1, cell_of_block e1 0, cell_of_block e1 1, cell_of_block e2 0, cell_of_block e2 1, cell_of_block e2 2⟩
  have HA := hid (fun W (hW : Pure wz W) => planG (hp.pure (Hpz.out.then_ hW)))
  have HB := hid (fun W (hW : Pure wz W) => planG (hq.pure (Hpz.out.then_ hW)))
  have HV := hid (fun W (hW : Pure wz W) => (show Strs W v X from Row.pure hv (Hpz.out.then_ hW)))
  have hXl : X.length ≤ maxLen := Row.len_le hv
  unfold maxLen at hXl
  have okA := hid (planB_ok M G)
  have okB := hid (planB_ok K H)
  unfold BagO at HA HB
  generalize planB M G = gA at *
  generalize planB K H = gB at *
  obtain ⟨av, cv, rfl⟩ := hv.shape
  clear hp hq hv
  go_enter Tryz.func4, Tryz.ntmps4
  go_wp2_with fail
  rw [← hwz]
  clear hwz
  refine (awake_any wz).mono ?_
  rintro e w1 ⟨rfl, hp⟩
  have P1 := hid (show Pure wz w1 from hp)
  clear hp
  obtain ⟨hS_0, hS_1, hS_2, hS_3, hS_4, hS_5, hS_6⟩ := (hS.out w1 P1.out)
  go_wp2_with fail
  refine (HA.out w1 P1.out).mono ?_
  rintro e wq ⟨x0, x1, x2, rfl, hr, hp, hf⟩
  have hX := BX.made hr
  obtain ⟨y10, k10, rfl⟩ := hr.1.shape
  obtain ⟨y11, k11, rfl⟩ := hr.2.1.shape
  obtain ⟨y12, k12, rfl⟩ := hr.2.2.shape
  obtain ⟨v1, hv1⟩ : ∃ W, W = wq.alloc (.cells #[.slice y10 gA.1.length k10, .slice y11 gA.2.1.length k11, .slice y12 gA.2.2.length k12] 31) := ⟨_, rfl⟩
  rw [← hv1] at hX
  clear hS_0 hS_1 hS_2 hS_3 hS_4 hS_5 hS_6
  have P2 := hid (show Pure w1 v1 from hp.then_ (by rw [hv1]; exact (Below.refl _ _).alloc (Nat.le_refl _) _))
  have HX1 := hid (fun W (hW : Pure v1 W) => hX.pure hW)
  have hsz1 := hid (show wq.heap.size < v1.heap.size from by rw [hv1]; simp)
  clear hr hp hf hX
  generalize hn1 : wq.heap.size = na at *
  obtain ⟨hS_0, hS_1, hS_2, hS_3, hS_4, hS_5, hS_6⟩ := (hS.out v1 (P1.out.then_ P2.out))
  obtain ⟨HX1_0, HX1_1, HX1_2⟩ := (HX1.out v1 (Below.refl _ _)).cells
  rw [hv1] at hS_0 hS_1 hS_2 hS_3 hS_4 hS_5 hS_6 HX1_0 HX1_1 HX1_2
  go_wp2_with fail
  rw [← hv1]
  clear hS_0 hS_1 hS_2 hS_3 hS_4 hS_5 hS_6 HX1_0 HX1_1 HX1_2
  clear hv1 hn1
  refine (HB.out v1 (P1.out.then_ P2.out)).mono ?_
  rintro e wq ⟨x0, x1, x2, rfl, hr, hp, hf⟩
  have hX := BX.made hr
  obtain ⟨y20, k20, rfl⟩ := hr.1.shape
  obtain ⟨y21, k21, rfl⟩ := hr.2.1.shape
  obtain ⟨y22, k22, rfl⟩ := hr.2.2.shape
  obtain ⟨v2, hv2⟩ : ∃ W, W = wq.alloc (.cells #[.slice y20 gB.1.length k20, .slice y21 gB.2.1.length k21, .slice y22 gB.2.2.length k22] 31) := ⟨_, rfl⟩
  rw [← hv2] at hX
  have P3 := hid (show Pure v1 v2 from hp.then_ (by rw [hv2]; exact (Below.refl _ _).alloc (Nat.le_refl _) _))
  have HX2 := hid (fun W (hW : Pure v2 W) => hX.pure hW)
  have hsz2 := hid (show wq.heap.size < v2.heap.size from by rw [hv2]; simp)
  clear hr hp hf hX
  generalize hn2 : wq.heap.size = nb at *
  obtain ⟨hS_0, hS_1, hS_2, hS_3, hS_4, hS_5, hS_6⟩ := (hS.out v2 (P1.out.then_ (P2.out.then_ P3.out)))
  obtain ⟨HX1_0, HX1_1, HX1_2⟩ := (HX1.out v2 P3.out).cells
  obtain ⟨HX2_0, HX2_1, HX2_2⟩ := (HX2.out v2 (Below.refl _ _)).cells
  rw [hv2] at hS_0 hS_1 hS_2 hS_3 hS_4 hS_5 hS_6 HX1_0 HX1_1 HX1_2 HX2_0 HX2_1 HX2_2
  go_upto_if 23 with fail
  rw [← hv2]
  clear hS_0 hS_1 hS_2 hS_3 hS_4 hS_5 hS_6 HX1_0 HX1_1 HX1_2 HX2_0 HX2_1 HX2_2
  clear hv2 hn2
  generalize Value.slice y10 gA.1.length k10 = z10 at *
  generalize Value.slice y11 gA.2.1.length k11 = z11 at *
  generalize Value.slice y12 gA.2.2.length k12 = z12 at *
  generalize Value.slice y20 gB.1.length k20 = z20 at *
  generalize Value.slice y21 gB.2.1.length k21 = z21 at *
  generalize Value.slice y22 gB.2.2.length k22 = z22 at *
  clear HA HB
  go_cut [10, 11] from 22 (fun mv kv wx => ∃ Y, TO v2.heap.size mv Y wx ∧ (∀ s ∈ Y, s.length ≤ maxLen) ∧ Y.length ≤ 5000 ∧ Pure v2 wx)
  case first =>
    obtain ⟨hS_0, hS_1, hS_2, hS_3, hS_4, hS_5, hS_6⟩ := (hS.out v2 (P1.out.then_ (P2.out.then_ P3.out)))
    have hbl := hid (bmarks_small okB.out (Nat.le_trans U64_le (by decide)))
    cases own with
    | false =>
      go_wp2
      go_meet
      case rel => exact ⟨[], TO.nil _ _, by simp, by simp, Below.refl _ _⟩
    | true =>
      have hmk := hid (rmarks6_any _ _ _ gB U64 v2 (HX2.out v2 (Below.refl _ _)).r okB.out (Nat.le_trans U64_le (by decide)))
      unfold StrsO at hmk
      obtain ⟨HX2_0, HX2_1, HX2_2⟩ := (HX2.out v2 (Below.refl _ _)).cells
      generalize bmarks gB = Y at *
      go_wp2_with fail
      refine hmk.out.mono ?_
      rintro e wm ⟨vm, rfl, hown, hpm⟩
      obtain ⟨am, cm, rfl⟩ := own_shape_d hown
      have HTO := hid (TO.own hown)
      have Hpm := hid hpm
      have hn3 : 0 ≤ bits .and .i64 n 3 ∧ bits .and .i64 n 3 ≤ 3 := and_le n 3 (by decide)
      clear hS_0 hS_1 hS_2 hS_3 hS_4 hS_5 hS_6 HX2_0 HX2_1 HX2_2
      obtain ⟨hS_0, hS_1, hS_2, hS_3, hS_4, hS_5, hS_6⟩ := (hS.out wm ((P1.out.then_ (P2.out.then_ P3.out)).then_ Hpm.out))
      clear hown hpm hmk
      obtain ⟨N, hN⟩ : ∃ N : Nat, bits .and .i64 n 3 = N := ⟨(bits .and .i64 n 3).toNat, by omega⟩
      rw [hN] at hn3
      by_cases hlt : N < Y.length
      · have hlt' : (N : Int) < (Y.length : Int) := by omega
        obtain ⟨vt, hvt, hto⟩ := HTO.out.tail hlt
        have hbl2 := hid (fun s (hs : s ∈ Y.drop N) => hbl.out.1 s (List.mem_of_mem_drop hs))
        obtain ⟨at_, ct, e⟩ := hto.shape
        rw [List.length_drop] at e
        subst e
        have hN' : bits .and .i64 n 3 = (N : Int) := hN
        have Hto := hid hto
        clear hto hN
        go_wp2
        go_meet
        case rel => exact ⟨_, Hto.out, hbl2.out, by have := hbl.out.2; rw [List.length_drop]; omega, Hpm.out⟩
      · have hlt' : ¬ (N : Int) < (Y.length : Int) := by omega
        have hN' : bits .and .i64 n 3 = (N : Int) := hN
        clear hN
        go_wp2
        go_meet
        case rel => exact ⟨_, HTO.out, hbl.out.1, hbl.out.2, Hpm.out⟩
  case rest =>
  obtain ⟨Y0, hT0, hs0, hl0, hpc⟩ := hcut
  have HT0 := hid hT0
  have Hs0 := hid hs0
  have Hl0 := hid hl0
  have Hpc := hid hpc
  obtain ⟨a10, c10, rfl⟩ := hT0.shape
  have HXs := hid (fun W (hW : Pure v2 W) => HV.out W ((P1.out.then_ (P2.out.then_ P3.out)).then_ hW))
  clear hT0 hs0 hl0 hpc HV
  go_upto_block 0 with fail
  go_cut [10, 12, 13] from 36 (fun mv iv sv wx => ∃ Y, TO v2.heap.size mv Y wx ∧ (∀ s ∈ Y, s.length ≤ maxLen) ∧ Pure v2 wx)
  case first =>
    go_wp2_with fail
    go_loopw [10, 12, 13] (fun mv i _ wr => ∃ (k : Nat) (Y : List (List UInt8)), k ≤ X.length ∧ k ≤ 6 ∧ i = .int .i64 k ∧ Y.length ≤ 5000 + k ∧ TO v2.heap.size mv Y wr ∧ (∀ s ∈ Y, s.length ≤ maxLen) ∧ Pure v2 wr) (fun _ i _ _ => X.length - (RowKit.intOf i).toNat)
    case atStart => exact ⟨0, Y0, Nat.zero_le _, Nat.zero_le _, rfl, Hl0.out, HT0.out, Hs0.out, Hpc.out⟩
    case round =>
      obtain ⟨k, Y, hk, hk6, rfl, hYl, hT, hYs, hp⟩ := hrel
      have HT := hid hT
      have HYs := hid hYs
      have Hp := hid hp
      obtain ⟨aY, cY, rfl⟩ := hT.shape
      obtain ⟨-, -, -, -, -, -, q6⟩ := hS.out wr ((P1.out.then_ (P2.out.then_ P3.out)).then_ hp)
      clear hT hYs hp
      by_cases hlt : k < X.length ∧ k < 6
      · obtain ⟨hlt, h6⟩ := hlt
        have hlt' : (k : Int) < (X.length : Int) := by omega
        have h6' : (k : Int) < 6 := by omega
        obtain ⟨bx, ox, e1, hbx, hx⟩ := Strs.get (HXs.out wr Hp.out) hlt
        subst e1
        generalize X.getD k [] = x at *
        have hbz := bs_size x
        have ht40 := take40 x
        have hxl : (x.take 40).length ≤ maxLen := by rw [List.length_take]; unfold maxLen; omega
        have Hxl := hid hxl
        clear hxl hbx
        go_upto_if 54 with fail
        go_cut [13] from 36 to 60 (fun sv wx => sv = .string (bs (x.take 40)) ∧ wx = wr)
        case first =>
          by_cases h40 : 40 < x.length
          · have h40' : (40 : Int) < (bs x).size := by omega
            have h40c : 40 ≤ (bs x).size := by omega
            go_wp2
            go_meet
            case rel => exact ⟨rfl, rfl⟩
          · have h40' : ¬ (40 : Int) < (bs x).size := by omega
            have e40 : x.take 40 = x := List.take_of_length_le (by omega)
            go_wp2
            go_meet
            case rel => rw [e40]; exact ⟨rfl, rfl⟩
        case rest =>
        obtain ⟨rfl, rfl⟩ := hcut
        clear ht40 hbz q6 hx
        generalize x.take 40 = q at *
        go_wp2_with (at_builtin; refine wpList_append_to rfl _ _ rfl v2.heap.size _ Y rfl (HT.out.pure (show Pure wc (wc.alloc (.cells #[.string (bs q)] 9)) from (Below.refl _ _).alloc (Nat.le_refl _) _)) ⟨wc.heap.size, 0, none⟩ 1 q rfl (str_lit0 wc q) (by omega) (by have := Hp.out.size; simp; omega) ?_)
        intro v9 w9 hT9 hk9
        have HT9 := hid hT9
        have Hp9 := hid (TO.app2 (wb := v2) rfl Hp.out (HT.out.pure (show Pure wc (wc.alloc (.cells #[.string (bs q)] 9)) from (Below.refl _ _).alloc (Nat.le_refl _) _)) ((Below.refl _ _).alloc (Nat.le_refl _) _) hk9)
        obtain ⟨a9, c9, rfl⟩ := hT9.shape
        clear hT9 hk9
        go_wp2
        go_roundw
        case rel => exact ⟨k + 1, Y ++ [q], by omega, by omega, by go_num, by rw [List.length_append, List.length_singleton]; omega, HT9.out, (fun s hs => by rcases List.mem_append.1 hs with hs | hs; exact HYs.out s hs; rw [List.mem_singleton] at hs; subst hs; exact Hxl.out), Hp9.out⟩
        case measure => simp [RowKit.intOf]; omega
      · by_cases hl : k < X.length
        · have hlt' : (k : Int) < (X.length : Int) := by omega
          have h6' : ¬ (k : Int) < 6 := by omega
          go_wp2
          go_meet
          case rel => exact ⟨Y, HT.out, HYs.out, Hp.out⟩
        · have hlt' : ¬ (k : Int) < (X.length : Int) := by omega
          go_wp2
          go_meet
          case rel => exact ⟨Y, HT.out, HYs.out, Hp.out⟩
  case rest =>
  obtain ⟨Y, hT, hYs, hpc⟩ := hcut
  have P4 := hid (show Pure v2 wc from hpc)
  have HY := hid (fun W (hW : Pure wc W) => (show Strs W _ Y from Row.pure hT.strs hW))
  obtain ⟨a10, c10, rfl⟩ := hT.shape
  have HYs := hid hYs
  clear hT hYs hpc HXs HT0 Hs0 Hl0 Hpc
  have qa := hid (fun W (hW : Pure wc W) => smarks_any _ _ _ gA U64 W (HX1.out W ((P3.out.then_ P4.out).then_ hW)).r okA.out (Nat.le_trans U64_le (by decide)))
  have qb := hid (fun W (hW : Pure wc W) => rmarks6_any _ _ _ gA U64 W (HX1.out W ((P3.out.then_ P4.out).then_ hW)).r okA.out (Nat.le_trans U64_le (by decide)))
  have qs := hid (fun W s t (ha : Strs W s (bmarks gA)) (hb : Strs W t (bmarks gA)) => tsameL ha hb)
  unfold StrsO at qa qb
  generalize bmarks gA = Ma at *
  have hS1 : Hid (∀ W, Pure wc W → (W.cell? ⟨na, 0, none⟩ = some z10 ∧ W.cell? ⟨na, 1, none⟩ = some z11 ∧ W.cell? ⟨na, 2, none⟩ = some z12 ∧ W.cell? ⟨nb, 0, none⟩ = some z20 ∧ W.cell? ⟨nb, 1, none⟩ = some z21 ∧ W.cell? ⟨nb, 2, none⟩ = some z22 ∧ Pure wc W)) := fun W hW => by
    obtain ⟨eHX10, eHX11, eHX12⟩ := (HX1.out W ((P3.out.then_ P4.out).then_ hW)).cells
    obtain ⟨eHX20, eHX21, eHX22⟩ := (HX2.out W (P4.out.then_ hW)).cells
    exact ⟨eHX10, eHX11, eHX12, eHX20, eHX21, eHX22, hW⟩
  have hS2 : Hid (∀ W : World, (W.cell? ⟨na, 0, none⟩ = some z10 ∧ W.cell? ⟨na, 1, none⟩ = some z11 ∧ W.cell? ⟨na, 2, none⟩ = some z12 ∧ W.cell? ⟨nb, 0, none⟩ = some z20 ∧ W.cell? ⟨nb, 1, none⟩ = some z21 ∧ W.cell? ⟨nb, 2, none⟩ = some z22 ∧ Pure wc W) → Pure wc W) := fun W h => h.2.2.2.2.2.2
  have hst := hid (hS1.out wc.drew (Below.refl _ _).drew)
  go_wp2_with fail
  go_region_held3 (fun W => W.cell? ⟨na, 0, none⟩ = some z10 ∧ W.cell? ⟨na, 1, none⟩ = some z11 ∧ W.cell? ⟨na, 2, none⟩ = some z12 ∧ W.cell? ⟨nb, 0, none⟩ = some z20 ∧ W.cell? ⟨nb, 1, none⟩ = some z21 ∧ W.cell? ⟨nb, 2, none⟩ = some z22 ∧ Pure wc W)
    (first | with_reducible exact hst.out | with_reducible assumption | with_reducible exact hS1.out _ (Pure.then_ (hS2.out _ (by assumption)) (by assumption)))
    ((first
      | (go_at_call 16; ((refine (qa.out _ (hS2.out _ (by assumption))).mono ?_)); rintro e w7 ⟨s0, rfl, h7, hp7⟩)
      | (go_at_call 14; ((refine (qb.out _ (hS2.out _ (by assumption))).mono ?_)); rintro e w8 ⟨t0, rfl, h8, hp8⟩)
      | (go_at_call 15; (first | (refine (qs.out _ _ _ (Row.of_own (own_pure h7 hp8)) (Row.of_own h8)).mono ?_) | (refine (qs.out _ _ _ (Row.of_own h7) (Row.of_own (own_pure h8 hp7))).mono ?_)); rintro e w9 ⟨rfl, hp9⟩)))
  have P5 := hid (show Pure wc w9 from hS2.out w9 (by assumption))
  clear hst hS1 hS2
  clear h7 hp7 h8 hp8 hp9 qa qb qs
  have qa := hid (fun W (hW : Pure w9 W) => slacks_any _ _ _ _ gA Y U64 W (HX1.out W ((P3.out.then_ (P4.out.then_ P5.out)).then_ hW)).r okA.out (Nat.le_trans U64_le (by decide)) (HY.out W (P5.out.then_ hW)) HYs.out)
  have qb := hid (fun W (hW : Pure w9 W) => rlacks6_any _ _ _ _ gA Y U64 W (HX1.out W ((P3.out.then_ (P4.out.then_ P5.out)).then_ hW)).r okA.out (Nat.le_trans U64_le (by decide)) (HY.out W (P5.out.then_ hW)))
  have qs := hid (fun W s t (ha : Ints W s (blacks gA Y)) (hb : Ints W t (blacks gA Y)) => isameL ha hb)
  unfold IntsO at qa qb
  generalize blacks gA Y = La at *
  have hS1 : Hid (∀ W, Pure w9 W → (W.cell? ⟨na, 0, none⟩ = some z10 ∧ W.cell? ⟨na, 1, none⟩ = some z11 ∧ W.cell? ⟨na, 2, none⟩ = some z12 ∧ W.cell? ⟨nb, 0, none⟩ = some z20 ∧ W.cell? ⟨nb, 1, none⟩ = some z21 ∧ W.cell? ⟨nb, 2, none⟩ = some z22 ∧ Pure w9 W)) := fun W hW => by
    obtain ⟨eHX10, eHX11, eHX12⟩ := (HX1.out W ((P3.out.then_ (P4.out.then_ P5.out)).then_ hW)).cells
    obtain ⟨eHX20, eHX21, eHX22⟩ := (HX2.out W ((P4.out.then_ P5.out).then_ hW)).cells
    exact ⟨eHX10, eHX11, eHX12, eHX20, eHX21, eHX22, hW⟩
  have hS2 : Hid (∀ W : World, (W.cell? ⟨na, 0, none⟩ = some z10 ∧ W.cell? ⟨na, 1, none⟩ = some z11 ∧ W.cell? ⟨na, 2, none⟩ = some z12 ∧ W.cell? ⟨nb, 0, none⟩ = some z20 ∧ W.cell? ⟨nb, 1, none⟩ = some z21 ∧ W.cell? ⟨nb, 2, none⟩ = some z22 ∧ Pure w9 W) → Pure w9 W) := fun W h => h.2.2.2.2.2.2
  have hst := hid (hS1.out w9.drew (Below.refl _ _).drew)
  go_wp2_with fail
  go_region_held3 (fun W => W.cell? ⟨na, 0, none⟩ = some z10 ∧ W.cell? ⟨na, 1, none⟩ = some z11 ∧ W.cell? ⟨na, 2, none⟩ = some z12 ∧ W.cell? ⟨nb, 0, none⟩ = some z20 ∧ W.cell? ⟨nb, 1, none⟩ = some z21 ∧ W.cell? ⟨nb, 2, none⟩ = some z22 ∧ Pure w9 W)
    (first | with_reducible exact hst.out | with_reducible assumption | with_reducible exact hS1.out _ (Pure.then_ (hS2.out _ (by assumption)) (by assumption)))
    ((first
      | (go_at_call 18; ((refine (qa.out _ (hS2.out _ (by assumption))).mono ?_)); rintro e w17 ⟨s0, rfl, h7, hp7⟩)
      | (go_at_call 19; ((refine (qb.out _ (hS2.out _ (by assumption))).mono ?_)); rintro e w18 ⟨t0, rfl, h8, hp8⟩)
      | (go_at_call 17; (first | (refine (qs.out _ _ _ (Row.of_own (own_pure h7 hp8)) (Row.of_own h8)).mono ?_) | (refine (qs.out _ _ _ (Row.of_own h7) (Row.of_own (own_pure h8 hp7))).mono ?_)); rintro e w19 ⟨rfl, hp9⟩)))
  have P6 := hid (show Pure w9 w19 from hS2.out w19 (by assumption))
  clear hst hS1 hS2
  clear h7 hp7 h8 hp8 hp9 qa qb qs
  have qa := hid (fun W (hW : Pure w19 W) => sdiffer_any _ _ _ _ _ _ gA gB U64 W (HX1.out W ((P3.out.then_ (P4.out.then_ (P5.out.then_ P6.out))).then_ hW)).r (HX2.out W ((P4.out.then_ (P5.out.then_ P6.out)).then_ hW)).r okA.out okB.out (by rw [U64_len]; decide))
  have qb := hid (fun W (hW : Pure w19 W) => rdiffer6_any _ _ _ _ _ _ gA gB U64 W (HX1.out W ((P3.out.then_ (P4.out.then_ (P5.out.then_ P6.out))).then_ hW)).r (HX2.out W ((P4.out.then_ (P5.out.then_ P6.out)).then_ hW)).r okA.out okB.out (by rw [U64_len]; decide))
  have qs := hid (fun W s t (ha : Ints W s (bdiffer gA gB)) (hb : Ints W t (bdiffer gA gB)) => isameL ha hb)
  unfold IntsO at qa qb
  generalize bdiffer gA gB = La at *
  have hS1 : Hid (∀ W, Pure w19 W → (W.cell? ⟨na, 0, none⟩ = some z10 ∧ W.cell? ⟨na, 1, none⟩ = some z11 ∧ W.cell? ⟨na, 2, none⟩ = some z12 ∧ W.cell? ⟨nb, 0, none⟩ = some z20 ∧ W.cell? ⟨nb, 1, none⟩ = some z21 ∧ W.cell? ⟨nb, 2, none⟩ = some z22 ∧ Pure w19 W)) := fun W hW => by
    obtain ⟨eHX10, eHX11, eHX12⟩ := (HX1.out W ((P3.out.then_ (P4.out.then_ (P5.out.then_ P6.out))).then_ hW)).cells
    obtain ⟨eHX20, eHX21, eHX22⟩ := (HX2.out W ((P4.out.then_ (P5.out.then_ P6.out)).then_ hW)).cells
    exact ⟨eHX10, eHX11, eHX12, eHX20, eHX21, eHX22, hW⟩
  have hS2 : Hid (∀ W : World, (W.cell? ⟨na, 0, none⟩ = some z10 ∧ W.cell? ⟨na, 1, none⟩ = some z11 ∧ W.cell? ⟨na, 2, none⟩ = some z12 ∧ W.cell? ⟨nb, 0, none⟩ = some z20 ∧ W.cell? ⟨nb, 1, none⟩ = some z21 ∧ W.cell? ⟨nb, 2, none⟩ = some z22 ∧ Pure w19 W) → Pure w19 W) := fun W h => h.2.2.2.2.2.2
  have hst := hid (hS1.out w19.drew (Below.refl _ _).drew)
  go_wp2_with fail
  go_region_held3 (fun W => W.cell? ⟨na, 0, none⟩ = some z10 ∧ W.cell? ⟨na, 1, none⟩ = some z11 ∧ W.cell? ⟨na, 2, none⟩ = some z12 ∧ W.cell? ⟨nb, 0, none⟩ = some z20 ∧ W.cell? ⟨nb, 1, none⟩ = some z21 ∧ W.cell? ⟨nb, 2, none⟩ = some z22 ∧ Pure w19 W)
    (first | with_reducible exact hst.out | with_reducible assumption | with_reducible exact hS1.out _ (Pure.then_ (hS2.out _ (by assumption)) (by assumption)))
    ((first
      | (go_at_call 11; ((refine (qa.out _ (hS2.out _ (by assumption))).mono ?_)); rintro e w27 ⟨s0, rfl, h7, hp7⟩)
      | (go_at_call 20; ((refine (qb.out _ (hS2.out _ (by assumption))).mono ?_)); rintro e w28 ⟨t0, rfl, h8, hp8⟩)
      | (go_at_call 17; (first | (refine (qs.out _ _ _ (Row.of_own (own_pure h7 hp8)) (Row.of_own h8)).mono ?_) | (refine (qs.out _ _ _ (Row.of_own h7) (Row.of_own (own_pure h8 hp7))).mono ?_)); rintro e w29 ⟨rfl, hp9⟩)))
  have P7 := hid (show Pure w19 w29 from hS2.out w29 (by assumption))
  clear hst hS1 hS2
  clear h7 hp7 h8 hp8 hp9 qa qb qs
  go_wp2
  go_ret
  exact ⟨rfl, Hpz.out.then_ (P1.out.then_ (P2.out.then_ (P3.out.then_ (P4.out.then_ (P5.out.then_ (P6.out.then_ P7.out))))))⟩
end Go.Proofs.YtcjggofcmjpfnaaGreat

