/- law05's plans that came in, read to their cells; their boxes. -/
import Derived.Test.YtbcbmnifbflmaaaGreatLO
import Derived.Test.YtbcbmnifbflmaaaGreatMB5
namespace Go.Proofs.YtbcbmnifbflmaaaGreat
open Go.RowKit Go.Maps Go.ChangeShapes Go.WideShapes Go.Deep

/-- A plan, as a value. -/
structure PlanV5 (w : World) (v0 v1 v2 : Value) (M : List Msg) (G : List Bool) (S : List Dot) : Prop where
  m : Msgs w v0 M
  g : ∃ a n c, v1 = .slice a n c ∧ BoolsAt w a n c G
  s : Dots w v2 S
theorem PlanV5.pure {w w' : World} {v0 v1 v2 : Value} {M : List Msg} {G : List Bool} {S : List Dot} (h : PlanV5 w v0 v1 v2 M G S) (hp : Pure w w') : PlanV5 w' v0 v1 v2 M G S := by
  obtain ⟨a, n, c, e, hg⟩ := h.g
  exact ⟨Row.pure h.m hp, ⟨a, n, c, e, hg.pure hp⟩, Row.pure h.s hp⟩
theorem plan5G {w : World} {v0 v1 v2 : Value} {M : List Msg} {G : List Bool} {S : List Dot} (h : PlanV5 w v0 v1 v2 M G S) : Calls Tryz.prog 10 #[.agg #[v0, v1, v2]] w (BagO w (planB5 S M G)) := by
  obtain ⟨a, n, c, rfl, hg⟩ := h.g
  exact plan5_any v0 v2 M S a n c G w h.m hg h.s
theorem pk1 (w : World) (a00 a01 a02 : Value) : ∃ wz, wz = (w.alloc (.cells #[a00, a01, a02] 26)) ∧ Hid (Pure w wz) ∧ Hid (∀ W, Pure wz W → (W.cell? ⟨w.heap.size, 0, none⟩ = some a00 ∧ W.cell? ⟨w.heap.size, 1, none⟩ = some a01 ∧ W.cell? ⟨w.heap.size, 2, none⟩ = some a02 ∧ Pure wz W)) := by
  refine ⟨_, rfl, (Below.refl _ _).alloc (Nat.le_refl _) _, fun W hW => ?_⟩
  have n0 := block_alloc_new w (.cells #[a00, a01, a02] 26)
  have b0 := n0
  have e0 := (hW.block _ (lt_of_block b0)).trans b0
  exact ⟨cell_of_block e0 0, cell_of_block e0 1, cell_of_block e0 2, hW⟩
theorem pk2 (w : World) (a00 a01 a02 a10 a11 a12 : Value) : ∃ wz, wz = ((w.alloc (.cells #[a00, a01, a02] 26)).alloc (.cells #[a10, a11, a12] 26)) ∧ Hid (Pure w wz) ∧ Hid (∀ W, Pure wz W → (W.cell? ⟨w.heap.size, 0, none⟩ = some a00 ∧ W.cell? ⟨w.heap.size, 1, none⟩ = some a01 ∧ W.cell? ⟨w.heap.size, 2, none⟩ = some a02 ∧ W.cell? ⟨w.heap.size + 1, 0, none⟩ = some a10 ∧ W.cell? ⟨w.heap.size + 1, 1, none⟩ = some a11 ∧ W.cell? ⟨w.heap.size + 1, 2, none⟩ = some a12 ∧ Pure wz W)) := by
  refine ⟨_, rfl, ((Below.refl _ _).alloc (Nat.le_refl _) _).alloc (by simp) _, fun W hW => ?_⟩
  have n0 := block_alloc_new w (.cells #[a00, a01, a02] 26)
  have n1 := block_alloc_new (w.alloc (.cells #[a00, a01, a02] 26)) (.cells #[a10, a11, a12] 26)
  simp only [World.size_alloc] at n1
  have b0 := (block_alloc_old n0 (.cells #[a10, a11, a12] 26))
  have e0 := (hW.block _ (lt_of_block b0)).trans b0
  have b1 := n1
  have e1 := (hW.block _ (lt_of_block b1)).trans b1
  exact ⟨cell_of_block e0 0, cell_of_block e0 1, cell_of_block e0 2, cell_of_block e1 0, cell_of_block e1 1, cell_of_block e1 2, hW⟩
theorem pk3 (w : World) (a00 a01 a02 a10 a11 a12 a20 a21 a22 : Value) : ∃ wz, wz = (((w.alloc (.cells #[a00, a01, a02] 26)).alloc (.cells #[a10, a11, a12] 26)).alloc (.cells #[a20, a21, a22] 26)) ∧ Hid (Pure w wz) ∧ Hid (∀ W, Pure wz W → (W.cell? ⟨w.heap.size, 0, none⟩ = some a00 ∧ W.cell? ⟨w.heap.size, 1, none⟩ = some a01 ∧ W.cell? ⟨w.heap.size, 2, none⟩ = some a02 ∧ W.cell? ⟨w.heap.size + 1, 0, none⟩ = some a10 ∧ W.cell? ⟨w.heap.size + 1, 1, none⟩ = some a11 ∧ W.cell? ⟨w.heap.size + 1, 2, none⟩ = some a12 ∧ W.cell? ⟨w.heap.size + 1 + 1, 0, none⟩ = some a20 ∧ W.cell? ⟨w.heap.size + 1 + 1, 1, none⟩ = some a21 ∧ W.cell? ⟨w.heap.size + 1 + 1, 2, none⟩ = some a22 ∧ Pure wz W)) := by
  refine ⟨_, rfl, (((Below.refl _ _).alloc (Nat.le_refl _) _).alloc (by simp) _).alloc (by simp; omega) _, fun W hW => ?_⟩
  have n0 := block_alloc_new w (.cells #[a00, a01, a02] 26)
  have n1 := block_alloc_new (w.alloc (.cells #[a00, a01, a02] 26)) (.cells #[a10, a11, a12] 26)
  have n2 := block_alloc_new ((w.alloc (.cells #[a00, a01, a02] 26)).alloc (.cells #[a10, a11, a12] 26)) (.cells #[a20, a21, a22] 26)
  simp only [World.size_alloc] at n1 n2
  have b0 := (block_alloc_old (block_alloc_old n0 (.cells #[a10, a11, a12] 26)) (.cells #[a20, a21, a22] 26))
  have e0 := (hW.block _ (lt_of_block b0)).trans b0
  have b1 := (block_alloc_old n1 (.cells #[a20, a21, a22] 26))
  have e1 := (hW.block _ (lt_of_block b1)).trans b1
  have b2 := n2
  have e2 := (hW.block _ (lt_of_block b2)).trans b2
  exact ⟨cell_of_block e0 0, cell_of_block e0 1, cell_of_block e0 2, cell_of_block e1 0, cell_of_block e1 1, cell_of_block e1 2, cell_of_block e2 0, cell_of_block e2 1, cell_of_block e2 2, hW⟩
theorem pk2d (w : World) (a00 a01 a02 a10 a11 a12 : Value) (dx dy : Int) : ∃ wz, wz = (((w.alloc (.cells #[a00, a01, a02] 26)).alloc (.cells #[a10, a11, a12] 26)).alloc (.cells #[.int .i64 dx, .int .i64 dy] 28)) ∧ Hid (Pure w wz) ∧ Hid (∀ W, Pure wz W → (W.cell? ⟨w.heap.size, 0, none⟩ = some a00 ∧ W.cell? ⟨w.heap.size, 1, none⟩ = some a01 ∧ W.cell? ⟨w.heap.size, 2, none⟩ = some a02 ∧ W.cell? ⟨w.heap.size + 1, 0, none⟩ = some a10 ∧ W.cell? ⟨w.heap.size + 1, 1, none⟩ = some a11 ∧ W.cell? ⟨w.heap.size + 1, 2, none⟩ = some a12 ∧ W.cell? ⟨w.heap.size + 1 + 1, 0, none⟩ = some (.int .i64 dx) ∧ W.cell? ⟨w.heap.size + 1 + 1, 1, none⟩ = some (.int .i64 dy) ∧ Pure wz W)) := by
  refine ⟨_, rfl, (((Below.refl _ _).alloc (Nat.le_refl _) _).alloc (by simp) _).alloc (by simp; omega) _, fun W hW => ?_⟩
  have n0 := block_alloc_new w (.cells #[a00, a01, a02] 26)
  have n1 := block_alloc_new (w.alloc (.cells #[a00, a01, a02] 26)) (.cells #[a10, a11, a12] 26)
  have n2 := block_alloc_new ((w.alloc (.cells #[a00, a01, a02] 26)).alloc (.cells #[a10, a11, a12] 26)) (.cells #[.int .i64 dx, .int .i64 dy] 28)
  simp only [World.size_alloc] at n1 n2
  have b0 := (block_alloc_old (block_alloc_old n0 (.cells #[a10, a11, a12] 26)) (.cells #[.int .i64 dx, .int .i64 dy] 28))
  have e0 := (hW.block _ (lt_of_block b0)).trans b0
  have b1 := (block_alloc_old n1 (.cells #[.int .i64 dx, .int .i64 dy] 28))
  have e1 := (hW.block _ (lt_of_block b1)).trans b1
  have b2 := n2
  have e2 := (hW.block _ (lt_of_block b2)).trans b2
  exact ⟨cell_of_block e0 0, cell_of_block e0 1, cell_of_block e0 2, cell_of_block e1 0, cell_of_block e1 1, cell_of_block e1 2, cell_of_block e2 0, cell_of_block e2 1, hW⟩
theorem bs_of (B : ByteArray) : ∃ l, B = bs l := ⟨B.data.toList, by cases B; simp [bs]⟩
theorem msg_cells {H : Type} {enc : TypeId × Value → H} {W : World} {base : Nat} {held : Bool} {fuel : Nat} {x : DataW H × List MemPlace} {c0 c1 c2 c3 c4 : Value}
    (h : DataW.trod enc Tryz.prog W base (fun _ => true) held fuel 41 [c0, c1, c2, c3, c4] = some x) : ∃ m : Msg, c0 = .int .i64 m.1.1 ∧ c1 = .int .i64 m.1.2 ∧ c2 = .string (bs m.2.1) ∧ c3 = .string (bs m.2.2.1) ∧ c4 = .int .i64 m.2.2.2 := by
  have hC3 : Tryz.prog.cellsOf 3 = 1 := by kernel_rfl
  have hC9 : Tryz.prog.cellsOf 9 = 1 := by kernel_rfl
  have hCd : Tryz.prog.cellsOf 28 = 2 := by kernel_rfl
  obtain ⟨ys, n', _, _, _, hyl, hg⟩ := DataW.trod_struct Tryz.underlying41 h
  match ys, hyl with
  | [y0, y1, y2, y3], _ =>
    have g0 : DataW.trod enc Tryz.prog W base (fun _ => true) held n' 28 (List.take (Tryz.prog.cellsOf 28) [c0, c1, c2, c3, c4]) = some y0 := hg 0 _ rfl
    have g1 : DataW.trod enc Tryz.prog W base (fun _ => true) held n' 9 (List.take (Tryz.prog.cellsOf 9) [c2, c3, c4]) = some y1 := hg 1 _ rfl
    have g2 : DataW.trod enc Tryz.prog W base (fun _ => true) held n' 9 (List.take (Tryz.prog.cellsOf 9) [c3, c4]) = some y2 := hg 2 _ rfl
    have g3 : DataW.trod enc Tryz.prog W base (fun _ => true) held n' 3 (List.take (Tryz.prog.cellsOf 3) [c4]) = some y3 := hg 3 _ rfl
    rw [hCd] at g0
    rw [hC9] at g1 g2
    rw [hC3] at g3
    simp only [List.take_succ_cons, List.take_zero] at g0 g1 g2 g3
    obtain ⟨d, rfl, rfl⟩ := dot_cells g0
    obtain ⟨q, e1, _⟩ := DataW.trod_string Tryz.underlying9 g1
    obtain ⟨b, e2, _⟩ := DataW.trod_string Tryz.underlying9 g2
    obtain ⟨z, e3, _⟩ := DataW.trod_int Tryz.underlying3 g3
    simp only [List.cons.injEq, and_true] at e1 e2 e3
    obtain ⟨lq, rfl⟩ := bs_of q
    obtain ⟨lb, rfl⟩ := bs_of b
    exact ⟨(d, lq, lb, z), rfl, rfl, e1, e2, e3⟩
set_option maxRecDepth 8000 in
set_option maxHeartbeats 1000000 in
theorem msgs_cell {H : Type} {enc : TypeId × Value → H} {W : World} {base : Nat} {held : Bool} {fuel : Nat} {x : DataW H × List MemPlace} {v : Value}
    (h : DataW.trod enc Tryz.prog W base (fun _ => true) held fuel 22 [v] = some x) : ∃ l, Msgs W v l := by
  rcases open_slice Tryz.underlying22 h with ⟨hcs, _⟩ | ⟨ad, len, cap', m, n, D, Pl, hcs, _, hl, hm, hmm, _, hi⟩
  · simp at hcs
    subst hcs
    exact ⟨[], Row.nil _ _⟩
  · simp at hcs
    subst hcs
    simp only [if_true] at hmm
    subst hmm
    have hC : Tryz.prog.cellsOf 41 = 5 := by kernel_rfl
    obtain ⟨f, hf⟩ := choose_lt (α := Msg) (n := m) (p := fun k t => ∀ j, j < 5 → W.cell? (ad.add (k * 5 + j)) = (mcells t)[j]?) (fun k hk => by
      obtain ⟨cs', hc, ht⟩ := hi k hk
      rw [hC] at hc
      obtain ⟨_, hcl, hat⟩ := World.cells?_some hc
      match cs', hcl with
      | [c0, c1, c2, c3, c4], _ =>
        obtain ⟨z, rfl, rfl, rfl, rfl, rfl⟩ := msg_cells ht
        refine ⟨z, fun j hj => ?_⟩
        have a0 := hat j hj
        rw [Go.Deep.add_add] at a0
        rw [a0]; rfl)
    have hll : ((List.range len).map f).length = len := by simp
    refine ⟨(List.range len).map f, ?_⟩
    unfold Msgs
    rw [hll]
    refine ⟨by rw [mvs_len, hll], some ad, m, rfl, hl, hm, ?_⟩
    by_cases h0 : m = 0
    · exact .inl h0
    · right
      obtain ⟨b, off, spot⟩ := ad
      have hb0 := hf 0 (by omega) 0 (by decide)
      have hb1 : W.cell? (Addr.add ⟨b, off, spot⟩ (0 * 5 + 0)) = some (.int .i64 (f 0).1.1) := hb0
      have hspot : spot = none := by simpa [Addr.add] using World.cell?_spot hb1
      subst hspot
      rw [Addr.add_lit] at hb1
      refine ⟨b, off, rfl, World.block_lt_of_cell? W _ hb1, fun i hi' => ?_⟩
      have hk : i / 5 < len := by omega
      have d0 := mvs_get ((List.range len).map f) (i / 5) (by rw [hll]; exact hk) (i % 5) (by omega)
      have e : ((List.range len).map f).getD (i / 5) m0 = f (i / 5) := by simp [List.getD, hk]
      rw [e] at d0
      have c0 := hf (i / 5) (by omega) (i % 5) (by omega)
      rw [Addr.add_lit] at c0
      have ei : i / 5 * 5 + i % 5 = i := by omega
      rw [ei] at d0 c0
      rw [d0]; exact c0
set_option maxRecDepth 8000 in
set_option maxHeartbeats 1000000 in
theorem plan5_of_trod {H : Type} {enc : TypeId × Value → H} {W : World} {base : Nat} {held : Bool} {r : Reach} {b0 : Nat} {v : Value} {d : DataW H} {p : List MemPlace}
    (hv : Value.okWide Tryz.prog W r b0 26 v) (h : DataW.Trod enc Tryz.prog W base (fun _ => true) held 26 v d p) : ∃ (u0 u1 u2 : Value) (M : List Msg) (G : List Bool) (S : List Dot), v = .agg #[u0, u1, u2] ∧ PlanV5 W u0 u1 u2 M G S := by
  obtain ⟨cs, rfl, hsz⟩ := okWide_struct Tryz.underlying26 hv
  have hC : Tryz.prog.cellsOf 26 = 3 := by kernel_rfl
  have hC1 : Tryz.prog.cellsOf 22 = 1 := by kernel_rfl
  have hC2 : Tryz.prog.cellsOf 23 = 1 := by kernel_rfl
  have hC3 : Tryz.prog.cellsOf 24 = 1 := by kernel_rfl
  obtain ⟨l⟩ := cs
  match l, hsz.trans hC with
  | [c0, c1, c2], _ =>
    obtain ⟨fuel, hf⟩ := h
    obtain ⟨ys, n', _, _, _, hyl, hg⟩ := DataW.trod_struct Tryz.underlying26 hf
    match ys, hyl with
    | [y0, y1, y2], _ =>
      have g0 : DataW.trod enc Tryz.prog W base (fun _ => true) held n' 22 (List.take (Tryz.prog.cellsOf 22) [c0, c1, c2]) = some y0 := hg 0 _ rfl
      have g1 : DataW.trod enc Tryz.prog W base (fun _ => true) held n' 23 (List.take (Tryz.prog.cellsOf 23) [c1, c2]) = some y1 := hg 1 _ rfl
      have g2 : DataW.trod enc Tryz.prog W base (fun _ => true) held n' 24 (List.take (Tryz.prog.cellsOf 24) [c2]) = some y2 := hg 2 _ rfl
      rw [hC1] at g0
      rw [hC2] at g1
      rw [hC3] at g2
      simp only [List.take_succ_cons, List.take_zero] at g0 g1 g2
      obtain ⟨M, hM⟩ := msgs_cell g0
      obtain ⟨S, hS⟩ := dots_cell g2
      obtain ⟨G, a, n, c, e, hG⟩ : ∃ G a n c, c1 = .slice a n c ∧ BoolsAt W a n c G := by
        rcases open_bools Tryz.underlying23 Tryz.underlying4 (by kernel_rfl) g1 with ⟨hcs, _⟩ | ⟨ad, len', cap', B, hcs, _⟩
        · simp at hcs
          subst hcs
          obtain ⟨G, hG⟩ := bools_of_trod g1
          exact ⟨G, _, _, _, rfl, hG⟩
        · simp at hcs
          subst hcs
          obtain ⟨G, hG⟩ := bools_of_trod g1
          exact ⟨G, _, _, _, rfl, hG⟩
      exact ⟨c0, c1, c2, M, G, S, rfl, hM, ⟨a, n, c, e, hG⟩, hS⟩
end Go.Proofs.YtbcbmnifbflmaaaGreat
