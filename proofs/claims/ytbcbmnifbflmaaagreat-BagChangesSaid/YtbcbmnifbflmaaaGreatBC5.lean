/- BagChanges. -/
import Derived.Test.YtbcbmnifbflmaaaGreatBO
import Derived.Test.YtbcbmnifbflmaaaGreatMPu
import Derived.Deep.CutBlock
namespace Go.Proofs.YtbcbmnifbflmaaaGreat
open Go.RowKit Go.Maps Go.Shelf Go.Sort

/-- How much longer a body is. -/
def more3 (c : Int) : Nat := (Int.tmod c 3).natAbs
def cutM (own more : Bool) (c : Int) (m : Msg) : Msg := (if own then pname m.1 else m.1, m.2.1.take 60, if more then List.replicate (999 + more3 c) 0 else m.2.2.1.take 60, m.2.2.2)
theorem more3_le (c : Int) : more3 c ≤ 2 := by
  unfold more3
  rw [Int.natAbs_tmod]
  show c.natAbs % 3 ≤ 2
  omega
theorem mbx_set {n : Nat} {m : Msg} {W : World} (h : MX n m W) : (∀ q : List UInt8, MX n (m.1, q, m.2.2.1, m.2.2.2) (W.setCell ⟨n, 2, none⟩ (.string (bs q)))) ∧ (∀ b : List UInt8, MX n (m.1, m.2.1, b, m.2.2.2) (W.setCell ⟨n, 3, none⟩ (.string (bs b)))) ∧ ∀ x y : Int, MX n ((x, y), m.2.1, m.2.2.1, m.2.2.2) ((W.setCell ⟨n, 0, none⟩ (.int .i64 x)).setCell ⟨n, 1, none⟩ (.int .i64 y)) := by
  obtain ⟨⟨mx, my⟩, mq, mb, mc⟩ := m
  have e := h.b
  refine ⟨fun q => ⟨?_⟩, fun b => ⟨?_⟩, fun x y => ⟨?_⟩⟩
  · have := block_setCell e 2 (.string (bs q)); simpa using this
  · have := block_setCell e 3 (.string (bs b)); simpa using this
  · have := block_setCell (block_setCell e 0 (.int .i64 x)) 1 (.int .i64 y); simpa using this
theorem MX.all {n : Nat} {x y : Int} {q b : List UInt8} {c : Int} {W : World} (h : MX n ((x, y), q, b, c) W) : W.cell? ⟨n, 0, none⟩ = some (.int .i64 x) ∧ W.cell? ⟨n, 1, none⟩ = some (.int .i64 y) ∧ W.cell? ⟨n, 2, none⟩ = some (.string (bs q)) ∧ W.cell? ⟨n, 3, none⟩ = some (.string (bs b)) ∧ W.cell? ⟨n, 4, none⟩ = some (.int .i64 c) ∧ W.frozen? ⟨n, 0, none⟩ = false ∧ W.frozen? ⟨n, 1, none⟩ = false ∧ W.frozen? ⟨n, 2, none⟩ = false ∧ W.frozen? ⟨n, 3, none⟩ = false :=
  ⟨cell_of_block h.b 0, cell_of_block h.b 1, cell_of_block h.b 2, cell_of_block h.b 3, cell_of_block h.b 4, free_of_block h.b 0, free_of_block h.b 1, free_of_block h.b 2, free_of_block h.b 3⟩
theorem rput_all {v0 v1 v2 : Value} {g : Bag} (m : Msg) {W : World} (hr : BR3 v0 v1 v2 g W) (hg : BOk U64 g) : Calls Tryz.prog 20 #[.agg #[v0, v1, v2], mv m] W (BagT W (putR g m).1 (putR g m).2) := by
  unfold putR
  cases h1 : mmay m with
  | false => exact rput_bad v0 v1 v2 g m W hr h1
  | true =>
    cases h2 : chas g.2.1 g.2.2 m.1 with
    | true => exact rput_seen v0 v1 v2 g m W hr h1 h2
    | false => exact rput_plan m hr hg (by rw [U64_len]; decide) h1 h2
def remR (g : Bag) (d : Dot) : Bag × Int := if dchk d then (bremove g d, 0) else (([], [], []), 1)
theorem srem_all {v0 v1 v2 : Value} {g : Bag} (d : Dot) {W : World} (hr : BR3 v0 v1 v2 g W) (hg : BOk U64 g) : Calls Tryz.prog 12 #[.agg #[v0, v1, v2], dv d] W (BagT W (remR g d).1 (remR g d).2) := by
  unfold remR
  cases h1 : dchk d with
  | false => exact sremove_bad v0 v1 v2 d W h1
  | true => exact sremove_any v0 v1 v2 g d U64 W hr hg (by rw [U64_len]; decide) h1
theorem rrem_all {v0 v1 v2 : Value} {g : Bag} (d : Dot) {W : World} (hr : BR3 v0 v1 v2 g W) (hg : BOk U64 g) : Calls Tryz.prog 22 #[.agg #[v0, v1, v2], dv d] W (BagT W (remR g d).1 (remR g d).2) := by
  unfold remR
  cases h1 : dchk d with
  | false => exact rremove_bad v0 v1 v2 d W h1
  | true => exact rremove_plan d hr hg (by rw [U64_len]; decide) h1
/-- The question's box. -/
def AX (n : Nat) (own more : Bool) (c : Int) (W : World) : Prop := W.heap[n]? = some (.cells #[.bool own, .bool more, .int .i64 c] 47 (0, 0))
/-- While the message is made: its box n, since w0 nothing else was written. -/
structure CW (n : Nat) (w0 : World) (m : Msg) (W : World) : Prop where
  m : MX n m W
  k : Kept (fun k => k = n) w0 W
theorem CW.pure {n : Nat} {w0 W W' : World} {m : Msg} (h : CW n w0 m W) (hp : Pure W W') : CW n w0 m W' := ⟨h.m.pure hp, h.k.trans hp.kept⟩
theorem CW.set {n i : Nat} {w0 W : World} {m m' : Msg} (h : CW n w0 m W) {v : Value} (hm : MX n m' (W.setCell ⟨n, i, none⟩ v)) : CW n w0 m' (W.setCell ⟨n, i, none⟩ v) := ⟨hm, h.k.trans (kset W n i v)⟩
theorem zeros_conv (W : World) (N : Nat) : (convert 50 9 (.slice (some ⟨W.heap.size, 0, none⟩) N N)).run Tryz.prog (W.alloc (.cells (madeCells (Value.int .u8 0).cells N) 5)) = .ok (.string (bs (List.replicate N 0))) (W.alloc (.cells (madeCells (Value.int .u8 0).cells N) 5)) := by
  have h := run_convert_bytes_back (P := Tryz.prog) (W.alloc (.cells (madeCells (Value.int .u8 0).cells N) 5)) 50 9 5 ⟨W.heap.size, 0, none⟩ N (List.replicate N 0) Tryz.underlying50 Tryz.underlying5 Tryz.underlying9 (fun j hj => by
    have hj' : j < N := by simpa using hj
    rw [Addr.add_lit, Nat.zero_add, cell_of_block (block_alloc_new _ _), List.getElem_replicate]
    have hs : (madeCells (Value.int .u8 0).cells N).size = N := by rw [size_madeCells]
    rw [Array.getElem?_eq_getElem (by rw [hs]; exact hj')]
    simp [madeCells, Value.cells, Nat.mod_one])
  rw [List.length_replicate] at h
  exact h

set_option maxRecDepth 8000 in
set_option maxHeartbeats 8000000 in
theorem changes_walk (a00 a01 a02 : Value) (M0 : List Msg) (G0 : List Bool) (S0 : List Dot) (m : Msg) (own more : Bool) (cnt : Int) (w : World) (h0 : PlanV5 w a00 a01 a02 M0 G0 S0) :
    Calls Tryz.prog 4 #[.agg #[a00, a01, a02], mv m, .agg #[.bool own, .bool more, .int .i64 cnt]] w fun e w' => e = .returned (.bool true) ∧ Pure w w' := by
  obtain ⟨⟨dx, dy⟩, mq, mb, mc⟩ := m
  unfold mv
  dsimp only
  obtain ⟨wz, hwz⟩ : ∃ wz, wz = ((w.alloc (.cells #[a00, a01, a02] 26)).alloc (.cells #[.int .i64 dx, .int .i64 dy, .string (bs mq), .string (bs mb), .int .i64 mc] 41)).alloc (.cells #[.bool own, .bool more, .int .i64 cnt] 47) := ⟨_, rfl⟩
  have Hpz := hid (show Pure w wz from by rw [hwz]; exact (((Below.refl _ _).alloc (Nat.le_refl _) _).alloc (by simp) _).alloc (by simp; omega) _)
  have hbk : Hid (wz.heap[w.heap.size]? = some (.cells #[a00, a01, a02] 26 (0, 0)) ∧ MX (w.heap.size + 1) ((dx, dy), mq, mb, mc) wz ∧ AX (w.heap.size + 1 + 1) own more cnt wz) := by
    have n1 := block_alloc_new (w.alloc (.cells #[a00, a01, a02] 26)) (.cells #[.int .i64 dx, .int .i64 dy, .string (bs mq), .string (bs mb), .int .i64 mc] 41)
    have n2 := block_alloc_new ((w.alloc (.cells #[a00, a01, a02] 26)).alloc (.cells #[.int .i64 dx, .int .i64 dy, .string (bs mq), .string (bs mb), .int .i64 mc] 41)) (.cells #[.bool own, .bool more, .int .i64 cnt] 47)
    simp only [World.size_alloc] at n1 n2
    show _ ∧ _ ∧ wz.heap[_]? = _
    rw [hwz]
    exact ⟨block_alloc_old (block_alloc_old (block_alloc_new _ _) _) _, ⟨block_alloc_old n1 _⟩, n2⟩
  have HA := hid (fun W (hW : Pure wz W) => plan5G (h0.pure (Hpz.out.then_ hW)))
  have okA := hid (planB5_ok S0 M0 G0)
  unfold BagO at HA
  generalize planB5 S0 M0 G0 = gA at *
  have hS := hid (fun W (hW : Pure wz W) => (show W.cell? ⟨w.heap.size, 0, none⟩ = some a00 ∧ W.cell? ⟨w.heap.size, 1, none⟩ = some a01 ∧ W.cell? ⟨w.heap.size, 2, none⟩ = some a02 from by
    have e := (hW.block _ (lt_of_block hbk.out.1)).trans hbk.out.1
    exact ⟨cell_of_block e 0, cell_of_block e 1, cell_of_block e 2⟩))
  have hsh := hid (fun l W => short5_any l 60 (by omega) W)
  clear h0
  go_enter Tryz.func4, Tryz.ntmps4
  go_wp2_with fail
  rw [← hwz]
  clear hwz
  refine (awake5_any wz).mono ?_
  rintro e w1 ⟨rfl, hp⟩
  have P1 := hid (show Pure wz w1 from hp)
  clear hp
  obtain ⟨hS_0, hS_1, hS_2⟩ := (hS.out w1 P1.out)
  go_wp2_with fail
  refine (HA.out w1 P1.out).mono ?_
  rintro e wq ⟨x0, x1, x2, rfl, hr, hp, hf⟩
  have hX := BX.made hr
  obtain ⟨y10, k10, rfl⟩ := hr.1.shape
  obtain ⟨y11, k11, rfl⟩ := hr.2.1.shape
  obtain ⟨y12, k12, rfl⟩ := hr.2.2.shape
  obtain ⟨v1, hv1⟩ : ∃ W, W = wq.alloc (.cells #[.slice y10 gA.1.length k10, .slice y11 gA.2.1.length k11, .slice y12 gA.2.2.length k12] 33) := ⟨_, rfl⟩
  rw [← hv1] at hX
  clear hS_0 hS_1 hS_2
  have P2 := hid (show Pure w1 v1 from hp.then_ (by rw [hv1]; exact (Below.refl _ _).alloc (Nat.le_refl _) _))
  have HX1 := hid (fun W (hW : Pure v1 W) => hX.pure hW)
  have hsz1 := hid (show wq.heap.size < v1.heap.size from by rw [hv1]; simp)
  have hse1 := hid (show v1.heap.size = wq.heap.size + 1 from by rw [hv1]; simp)
  have HF1 := hid hf
  have hna0 := hid (show w1.heap.size ≤ wq.heap.size from hp.size)
  clear hr hp hf hX
  generalize hn1 : wq.heap.size = na at *
  obtain ⟨hS_0, hS_1, hS_2⟩ := (hS.out v1 (P1.out.then_ P2.out))
  obtain ⟨HX1_0, HX1_1, HX1_2⟩ := (HX1.out v1 (Below.refl _ _)).cells
  rw [hv1] at hS_0 hS_1 hS_2 HX1_0 HX1_1 HX1_2
  go_wp2_with fail
  rw [← hv1]
  clear hS_0 hS_1 hS_2 HX1_0 HX1_1 HX1_2
  clear hv1 hn1
  obtain ⟨HX1_0, HX1_1, HX1_2⟩ := (HX1.out v1 (Below.refl _ _)).cells
  have hby := hid (fun W (v : Value × Value × Value) (hv : BR3 v.1 v.2.1 v.2.2 gA W) => mbbytes_any (.agg #[v.1, v.2.1, v.2.2]) gA W hv.at (okA.out.small (by rw [U64_len]; decide)))
  have hrby := hid (fun W (v : Value × Value × Value) (hv : BR3 v.1 v.2.1 v.2.2 gA W) => rbbytes_any (.agg #[v.1, v.2.1, v.2.2]) gA W hv.at (okA.out.small (by rw [U64_len]; decide)))
  refine (hrby.out v1 (_, _, _) (HX1.out v1 (Below.refl _ _)).r).mono ?_
  rintro e w2 ⟨rfl, hp⟩
  clear HX1_0 HX1_1 HX1_2
  have P3 := hid (show Pure v1 w2 from hp)
  clear hp
  have HC2 := hid (show CW (w.heap.size + 1) w2 ((dx, dy), mq, mb, mc) w2 from ⟨hbk.out.2.1.pure (P1.out.then_ (P2.out.then_ P3.out)), Kept.refl _ _⟩)
  have HAx := hid (fun W m (hW : CW (w.heap.size + 1) w2 m W) => (show AX (w.heap.size + 1 + 1) own more cnt W from (hW.k.block _ (by have := (P1.out.then_ (P2.out.then_ P3.out)).size; have := lt_of_block hbk.out.2.2; omega) (by omega)).trans (((P1.out.then_ (P2.out.then_ P3.out)).block _ (lt_of_block hbk.out.2.2)).trans hbk.out.2.2)))
  have HB2 := hid (HX1.out w2 P3.out)
  have hpz2 := hid (show Pure w w2 from Hpz.out.then_ (P1.out.then_ (P2.out.then_ P3.out)))
  have hz3 := hid (show w.heap.size + 3 ≤ w1.heap.size from by have := lt_of_block hbk.out.2.2; have := P1.out.size; omega)
  have hna := hid (show w.heap.size + 1 < na from by have := hz3.out; have := hna0.out; omega)
  obtain ⟨m0', m1', m2', m3', m4', f0', f1', f2', f3'⟩ := HC2.out.m.all
  go_wp2_with fail
  refine (hsh.out mq w2).mono ?_
  rintro e wx ⟨rfl, hwx⟩
  have hwx := hwx.symm
  subst hwx
  generalize mq.take 60 = q6 at *
  obtain ⟨w3, hwn⟩ : ∃ yy, yy = w2.setCell ⟨w.heap.size + 1, 2, none⟩ (.string (bs q6)) := ⟨_, rfl⟩
  have HC3 := hid (show CW (w.heap.size + 1) w2 ((dx, dy), q6, mb, mc) w3 from by rw [hwn]; exact HC2.out.set ((mbx_set HC2.out.m).1 q6))
  go_upto_region 5 with fail
  rw [← hwn]
  clear hwn m0' m1' m2' m3' m4' f0' f1' f2' f3'
  obtain ⟨m0', m1', m2', m3', m4', f0', f1', f2', f3'⟩ := HC3.out.m.all
  go_wp2_with fail
  refine (hsh.out mb w3).mono ?_
  rintro e wx ⟨rfl, hwx⟩
  have hwx := hwx.symm
  subst hwx
  generalize mb.take 60 = b6 at *
  obtain ⟨w4, hwn⟩ : ∃ yy, yy = w3.setCell ⟨w.heap.size + 1, 3, none⟩ (.string (bs b6)) := ⟨_, rfl⟩
  have HC4 := hid (show CW (w.heap.size + 1) w2 ((dx, dy), q6, b6, mc) w4 from by rw [hwn]; exact HC3.out.set ((mbx_set HC3.out.m).2.1 b6))
  go_upto_region 6 with fail
  rw [← hwn]
  clear hwn m0' m1' m2' m3' m4' f0' f1' f2' f3'
  obtain ⟨a0', a1', a2'⟩ : w4.cell? ⟨w.heap.size + 1 + 1, 0, none⟩ = some (.bool own) ∧ w4.cell? ⟨w.heap.size + 1 + 1, 1, none⟩ = some (.bool more) ∧ w4.cell? ⟨w.heap.size + 1 + 1, 2, none⟩ = some (.int .i64 cnt) := by
    have e := HAx.out w4 _ HC4.out
    exact ⟨cell_of_block e 0, cell_of_block e 1, cell_of_block e 2⟩
  go_upto_if 41 with fail
  clear a0' a1' a2'
  go_cut [] from 27 (fun wx => ∃ x y, CW (w.heap.size + 1) w2 ((x, y), q6, b6, mc) wx)
  case first =>
    have HN := hid (fun W => name5_any (dx, dy) W)
    unfold dv at HN
    dsimp only at HN
    generalize pname (dx, dy) = nn at *
    obtain ⟨nx, ny⟩ := nn
    dsimp only at HN
    obtain ⟨m0', m1', m2', m3', m4', f0', f1', f2', f3'⟩ := HC4.out.m.all
    cases own
    · go_wp2_with fail
      go_meet
      case rel => exact ⟨dx, dy, HC4.out⟩
    · go_wp2_with (go_at_call 11; refine (HN.out w4).mono ?_; rintro e w5 ⟨rfl, hp5⟩; have HC5 := hid (HC4.out.pure hp5); clear hp5 m0' m1' m2' m3' m4' f0' f1' f2' f3'; obtain ⟨m0', m1', m2', m3', m4', f0', f1', f2', f3'⟩ := HC5.out.m.all)
      go_meet
      case rel => exact ⟨nx, ny, ⟨(mbx_set HC5.out.m).2.2 nx ny, HC5.out.k.trans ((kset w5 _ _ _).trans (kset _ _ _ _))⟩⟩
  case rest =>
    obtain ⟨ex, ey, hc6⟩ := hcut
    obtain ⟨w6, hw6⟩ : ∃ y, y = wc := ⟨_, rfl⟩
    subst hw6
    have HC6 := hid hc6
    clear hc6
    obtain ⟨a0', a1', a2'⟩ : w6.cell? ⟨w.heap.size + 1 + 1, 0, none⟩ = some (.bool own) ∧ w6.cell? ⟨w.heap.size + 1 + 1, 1, none⟩ = some (.bool more) ∧ w6.cell? ⟨w.heap.size + 1 + 1, 2, none⟩ = some (.int .i64 cnt) := by
      have e := HAx.out w6 _ HC6.out
      exact ⟨cell_of_block e 0, cell_of_block e 1, cell_of_block e 2⟩
    go_upto_if 47 with fail
    go_cut [] from 27 (fun wx => ∃ b, CW (w.heap.size + 1) w2 ((ex, ey), q6, b, mc) wx)
    case first =>
      have r1 : -3 < Int.tmod cnt 3 := by have := Int.lt_tmod_of_pos cnt (show (0 : Int) < (3 : Int) by omega); omega
      have r2 : Int.tmod cnt 3 < 3 := Int.tmod_lt_of_pos cnt (by omega)
      have r3 : wrap64 (Int.tmod cnt 3) = Int.tmod cnt 3 := by unfold wrap64; omega
      generalize hR : Int.tmod cnt 3 = R at *
      have hR' := hid hR
      clear hR
      obtain ⟨K, hK⟩ : ∃ K : Nat, (K : Int) = if R < 0 then -R else R := ⟨(if R < 0 then -R else R).toNat, by split <;> omega⟩
      have hKc : Hid (Int.tmod cnt 3 = R) := hR'
      obtain ⟨i0, hi, hz0, hz1, hz2⟩ := info_parts infoByte
      have hmk : ∀ W, (Instr.makeSlice 50 (.int .i64 (999 + (K : Int))) (.int .i64 (999 + (K : Int)))).run Tryz.prog W = .ok (.slice (some ⟨W.heap.size, 0, none⟩) (999 + K) (999 + K)) (W.alloc (.cells (madeCells (Value.int .u8 0).cells (999 + K)) 5)) := fun W => by
        have h := run_make (P := Tryz.prog) W 50 5 i0 _ Tryz.underlying50 hi hz0 .i64 .i64 (999 + (K : Int)) (999 + (K : Int)) (by omega) (Int.le_refl _) (by rw [hz2]; split at hK <;> omega) (by split at hK <;> omega)
        rw [h, hz1]
        rw [show (999 + (K : Int)).toNat = 999 + K by omega]
        simp
      have hmk' := hid hmk
      have hcv := fun W => zeros_conv W (999 + K)
      clear hi hz0 hz1 hz2
      obtain ⟨m0', m1', m2', m3', m4', f0', f1', f2', f3'⟩ := HC6.out.m.all
      cases more
      · clear hmk hcv hK
        go_wp2_with fail
        go_meet
        case rel => exact ⟨b6, HC6.out⟩
      · generalize madeCells (Value.int .u8 0).cells (999 + K) = Z at *
        have hR0 := hR'.out
        have hw1 : wrap64 (999 + (K : Int)) = 999 + (K : Int) := by unfold wrap64; split at hK <;> omega
        have hw2 : wrap64 (K : Int) = (K : Int) := by unfold wrap64; split at hK <;> omega
        have HK := hid hK
        clear r1 r2 r3 hKc m0' m1' m2' m3' m4' f0' f1' f2' f3'
        have HC6a := hid (HC6.out.pure (show Pure w6 (w6.alloc (.cells Z 5)) from (Below.refl _ _).alloc (Nat.le_refl _) _))
        obtain ⟨m0', m1', m2', m3', m4', f0', f1', f2', f3'⟩ := HC6a.out.m.all
        by_cases hneg : R < 0
        · have hq : Int.tmod cnt 3 = -(K : Int) := by rw [if_pos hneg] at hK; omega
          have hK0 : 0 < K := by rw [if_pos hneg] at hK; omega
          clear hK hneg hR0
          go_wp2_with fail
          go_meet
          case rel => exact ⟨_, HC6a.out.set ((mbx_set HC6a.out.m).2.1 (List.replicate (999 + K) 0))⟩
        · have hq : Int.tmod cnt 3 = (K : Int) := by rw [if_neg hneg] at hK; omega
          clear hK hneg hR0
          go_wp2_with fail
          go_meet
          case rel => exact ⟨_, HC6a.out.set ((mbx_set HC6a.out.m).2.1 (List.replicate (999 + K) 0))⟩
    case rest =>
      obtain ⟨eb, hc7⟩ := hcut
      obtain ⟨w7, hw7⟩ : ∃ y, y = wc := ⟨_, rfl⟩
      subst hw7
      have HC7 := hid hc7
      clear hc7
      generalize Value.slice y10 gA.1.length k10 = z10 at *
      generalize Value.slice y11 gA.2.1.length k11 = z11 at *
      generalize Value.slice y12 gA.2.2.length k12 = z12 at *
      have hpz7 := hid (show Pure w w7 from (Kept.trans (Pure.kept (S := fun k => w.heap.size ≤ k) hpz2.out) (HC7.out.k.mono (fun k _ e => (show w.heap.size ≤ k by omega)))).below (Nat.le_refl _) (fun k hk e => by omega))
      have HXa := hid (show BX na z10 z11 z12 gA w7 from ⟨(HC7.out.k.block _ (lt_of_block HB2.out.b) (by have := hna.out; omega)).trans HB2.out.b, HB2.out.r.kept HC7.out.k (fun k hk e => by have := HF1.out.1 k hk; have := hz3.out; omega) (fun k hk e => by have := HF1.out.2.1 k hk; have := hz3.out; omega) (fun k hk e => by have := HF1.out.2.2 k hk; have := hz3.out; omega)⟩)
      have HX0 := hid (fun W (hW : Pure w7 W) => HXa.out.pure hW)
      have HM := hid (fun W (hW : Pure w7 W) => (HC7.out.m.pure hW).cells)
      have HQ := hid (fun W (hW : Pure w7 W) => (show W.cell? ⟨w.heap.size + 1 + 1, 2, none⟩ = some (.int .i64 cnt) from cell_of_block ((hW.block _ (lt_of_block (HAx.out w7 _ HC7.out))).trans (HAx.out w7 _ HC7.out)) 2))
      have hl0 := hid (show gA.1.length ≤ 64 from by have := okA.out.len; rw [U64_len] at this; exact this)
      have hl1 := hid (show gA.2.1.length + gA.2.2.length ≤ 200 from by have h1 := okA.out.sml.l0; have h2 := okA.out.sml.l1; rw [U64_len] at h1 h2; omega)
      clear HA hS hsh HB2 HC2 HC3 HC4 HC6 HX1 P1 P2 P3 hby hbk Hpz HF1 hna0 hz3 hpz2 HAx
      have hput := hid (fun W (hW : Pure w7 W) => sput_any z10 z11 z12 gA ((ex, ey), q6, eb, mc) W (HX0.out W hW).r okA.out.bv (by have := hl0.out; omega) (by have := hl1.out; omega))
      have hrput := hid (fun W (hW : Pure w7 W) => rput_all ((ex, ey), q6, eb, mc) (HX0.out W hW).r okA.out)
      have hrem := hid (fun W (hW : Pure w7 W) => srem_all (ex, ey) (HX0.out W hW).r okA.out)
      have hrrem := hid (fun W (hW : Pure w7 W) => rrem_all (ex, ey) (HX0.out W hW).r okA.out)
      have hhan := hid (fun W (hW : Pure w7 W) => shanded_any z10 z11 z12 gA (ex, ey) cnt W (HX0.out W hW).r okA.out.r (by have := hl0.out; omega))
      have hrhan := hid (fun W (hW : Pure w7 W) => rhanded_any z10 z11 z12 gA (ex, ey) cnt W (HX0.out W hW).r (by have := hl0.out; omega))
      have hget := hid (fun W (hW : Pure w7 W) => sget_any z10 z11 z12 gA (ex, ey) W (HX0.out W hW).r okA.out.r)
      have hrget := hid (fun W (hW : Pure w7 W) => rget_any z10 z11 z12 gA (ex, ey) W (HX0.out W hW).r)
      have hque := hid (fun W (hW : Pure w7 W) => squeue_any z10 z11 z12 gA q6 W (HX0.out W hW).r (by have := hl0.out; omega))
      have hrque := hid (fun W (hW : Pure w7 W) => rqueue_any z10 z11 z12 gA q6 W (HX0.out W hW).r (by have := hl0.out; omega))
      have hsm5 := hid (fun W v u (l : List Msg) (h1 : Msgs W v l) (h2 : Msgs W u l) => (show Calls Tryz.prog 25 #[v, u] W (fun e w' => e = .returned (.bool true) ∧ Pure W w') from by have := rmsame_any v u l l W h1 h2; rw [decide_eq_true rfl] at this; exact this))
      have hby := hid (fun W (hW : Pure w7 W) => hrby.out W (z10, z11, z12) (HX0.out W hW).r)
      dsimp only at hby
      clear hrby
      generalize hP : putR gA ((ex, ey), q6, eb, mc) = pP at *
      obtain ⟨gP, eP⟩ := pP
      clear hP
      generalize hP : remR gA (ex, ey) = pR at *
      obtain ⟨gR, eR⟩ := pR
      clear hP
      generalize bhanded gA (ex, ey) cnt = gH at *
      generalize bqueue gA q6 = lq at *
      unfold BagT mv at hput hrput
      dsimp only at hput hrput
      unfold BagT dv at hrem hrrem
      dsimp only at hrem hrrem
      unfold BagS dv at hhan hrhan
      dsimp only at hhan hrhan
      unfold getR at hget hrget
      generalize lget gA.1 (ex, ey) = om at *
      generalize om.getD m0 = mm at *
      obtain ⟨⟨gx, gy⟩, gq, gb, gc⟩ := mm
      unfold mv dv at hget hrget
      dsimp only at hget hrget
      generalize om.isSome = gs at *
      --TICK b2
      obtain ⟨HX0_0, HX0_1, HX0_2⟩ := (HX0.out w7 (Below.refl _ _)).cells
      obtain ⟨HM_0, HM_1, HM_2, HM_3, HM_4⟩ := (HM.out w7 (Below.refl _ _))
      go_wp2_with fail
      refine (hput.out w7 (Below.refl _ _)).mono ?_
      rintro e wq ⟨x0, x1, x2, rfl, hr, hp, hf⟩
      have hX := BX.made hr
      obtain ⟨y20, k20, rfl⟩ := hr.1.shape
      obtain ⟨y21, k21, rfl⟩ := hr.2.1.shape
      obtain ⟨y22, k22, rfl⟩ := hr.2.2.shape
      obtain ⟨v2, hv2⟩ : ∃ W, W = wq.alloc (.cells #[.slice y20 gP.1.length k20, .slice y21 gP.2.1.length k21, .slice y22 gP.2.2.length k22] 33) := ⟨_, rfl⟩
      rw [← hv2] at hX
      clear HX0_0 HX0_1 HX0_2 HM_0 HM_1 HM_2 HM_3 HM_4
      have P4 := hid (show Pure w7 v2 from hp.then_ (by rw [hv2]; exact (Below.refl _ _).alloc (Nat.le_refl _) _))
      have HX2 := hid (fun W (hW : Pure v2 W) => hX.pure hW)
      have hsz2 := hid (show wq.heap.size < v2.heap.size from by rw [hv2]; simp)
      have hse2 := hid (show v2.heap.size = wq.heap.size + 1 from by rw [hv2]; simp)
      clear hr hp hf hX
      generalize hn2 : wq.heap.size = nx at *
      obtain ⟨HX0_0, HX0_1, HX0_2⟩ := (HX0.out v2 P4.out).cells
      obtain ⟨HM_0, HM_1, HM_2, HM_3, HM_4⟩ := (HM.out v2 P4.out)
      obtain ⟨HX2_0, HX2_1, HX2_2⟩ := (HX2.out v2 (Below.refl _ _)).cells
      rw [hv2] at HX0_0 HX0_1 HX0_2 HM_0 HM_1 HM_2 HM_3 HM_4 HX2_0 HX2_1 HX2_2
      go_wp2_with fail
      rw [← hv2]
      clear HX0_0 HX0_1 HX0_2 HM_0 HM_1 HM_2 HM_3 HM_4 HX2_0 HX2_1 HX2_2
      clear hv2 hn2
      generalize Value.slice y20 gP.1.length k20 = z20 at *
      generalize Value.slice y21 gP.2.1.length k21 = z21 at *
      generalize Value.slice y22 gP.2.2.length k22 = z22 at *
      --TICK b3
      obtain ⟨HX0_0, HX0_1, HX0_2⟩ := (HX0.out v2 P4.out).cells
      obtain ⟨HM_0, HM_1, HM_2, HM_3, HM_4⟩ := (HM.out v2 P4.out)
      obtain ⟨HX2_0, HX2_1, HX2_2⟩ := (HX2.out v2 (Below.refl _ _)).cells
      go_wp2_with fail
      refine (hrput.out v2 P4.out).mono ?_
      rintro e wq ⟨x0, x1, x2, rfl, hr, hp, hf⟩
      have hX := BX.made hr
      obtain ⟨y30, k30, rfl⟩ := hr.1.shape
      obtain ⟨y31, k31, rfl⟩ := hr.2.1.shape
      obtain ⟨y32, k32, rfl⟩ := hr.2.2.shape
      obtain ⟨v3, hv3⟩ : ∃ W, W = wq.alloc (.cells #[.slice y30 gP.1.length k30, .slice y31 gP.2.1.length k31, .slice y32 gP.2.2.length k32] 33) := ⟨_, rfl⟩
      rw [← hv3] at hX
      clear HX0_0 HX0_1 HX0_2 HM_0 HM_1 HM_2 HM_3 HM_4 HX2_0 HX2_1 HX2_2
      have P5 := hid (show Pure v2 v3 from hp.then_ (by rw [hv3]; exact (Below.refl _ _).alloc (Nat.le_refl _) _))
      have HX3 := hid (fun W (hW : Pure v3 W) => hX.pure hW)
      have hsz3 := hid (show wq.heap.size < v3.heap.size from by rw [hv3]; simp)
      have hse3 := hid (show v3.heap.size = wq.heap.size + 1 from by rw [hv3]; simp)
      clear hr hp hf hX
      generalize hn3 : wq.heap.size = ny at *
      obtain ⟨HX0_0, HX0_1, HX0_2⟩ := (HX0.out v3 (P4.out.then_ P5.out)).cells
      obtain ⟨HM_0, HM_1, HM_2, HM_3, HM_4⟩ := (HM.out v3 (P4.out.then_ P5.out))
      obtain ⟨HX2_0, HX2_1, HX2_2⟩ := (HX2.out v3 P5.out).cells
      obtain ⟨HX3_0, HX3_1, HX3_2⟩ := (HX3.out v3 (Below.refl _ _)).cells
      rw [hv3] at HX0_0 HX0_1 HX0_2 HM_0 HM_1 HM_2 HM_3 HM_4 HX2_0 HX2_1 HX2_2 HX3_0 HX3_1 HX3_2
      go_wp2_with fail
      rw [← hv3]
      clear HX0_0 HX0_1 HX0_2 HM_0 HM_1 HM_2 HM_3 HM_4 HX2_0 HX2_1 HX2_2 HX3_0 HX3_1 HX3_2
      clear hv3 hn3
      generalize Value.slice y30 gP.1.length k30 = z30 at *
      generalize Value.slice y31 gP.2.1.length k31 = z31 at *
      generalize Value.slice y32 gP.2.2.length k32 = z32 at *
      obtain ⟨HX0_0, HX0_1, HX0_2⟩ := (HX0.out v3 (P4.out.then_ P5.out)).cells
      obtain ⟨HM_0, HM_1, HM_2, HM_3, HM_4⟩ := (HM.out v3 (P4.out.then_ P5.out))
      obtain ⟨HX2_0, HX2_1, HX2_2⟩ := (HX2.out v3 P5.out).cells
      obtain ⟨HX3_0, HX3_1, HX3_2⟩ := (HX3.out v3 (Below.refl _ _)).cells
      go_wp2_with fail
      refine (rsameP5 (HX2.out v3 P5.out).r (HX3.out v3 (Below.refl _ _)).r).mono ?_
      rintro e w13 ⟨rfl, hp⟩
      clear HX0_0 HX0_1 HX0_2 HM_0 HM_1 HM_2 HM_3 HM_4 HX2_0 HX2_1 HX2_2 HX3_0 HX3_1 HX3_2
      have P6 := hid (show Pure v3 w13 from hp)
      clear hp
      clear hput hrput
      --TICK b4
      obtain ⟨HX0_0, HX0_1, HX0_2⟩ := (HX0.out w13 (P4.out.then_ (P5.out.then_ P6.out))).cells
      obtain ⟨HM_0, HM_1, HM_2, HM_3, HM_4⟩ := (HM.out w13 (P4.out.then_ (P5.out.then_ P6.out)))
      go_wp2_with fail
      refine (hrem.out w13 (P4.out.then_ (P5.out.then_ P6.out))).mono ?_
      rintro e wq ⟨x0, x1, x2, rfl, hr, hp, hf⟩
      have hX := BX.made hr
      obtain ⟨y40, k40, rfl⟩ := hr.1.shape
      obtain ⟨y41, k41, rfl⟩ := hr.2.1.shape
      obtain ⟨y42, k42, rfl⟩ := hr.2.2.shape
      obtain ⟨v4, hv4⟩ : ∃ W, W = wq.alloc (.cells #[.slice y40 gR.1.length k40, .slice y41 gR.2.1.length k41, .slice y42 gR.2.2.length k42] 33) := ⟨_, rfl⟩
      rw [← hv4] at hX
      clear HX0_0 HX0_1 HX0_2 HM_0 HM_1 HM_2 HM_3 HM_4
      have P7 := hid (show Pure w13 v4 from hp.then_ (by rw [hv4]; exact (Below.refl _ _).alloc (Nat.le_refl _) _))
      have HX4 := hid (fun W (hW : Pure v4 W) => hX.pure hW)
      have hsz4 := hid (show wq.heap.size < v4.heap.size from by rw [hv4]; simp)
      have hse4 := hid (show v4.heap.size = wq.heap.size + 1 from by rw [hv4]; simp)
      clear hr hp hf hX
      generalize hn4 : wq.heap.size = nu at *
      obtain ⟨HX0_0, HX0_1, HX0_2⟩ := (HX0.out v4 (P4.out.then_ (P5.out.then_ (P6.out.then_ P7.out)))).cells
      obtain ⟨HM_0, HM_1, HM_2, HM_3, HM_4⟩ := (HM.out v4 (P4.out.then_ (P5.out.then_ (P6.out.then_ P7.out))))
      obtain ⟨HX4_0, HX4_1, HX4_2⟩ := (HX4.out v4 (Below.refl _ _)).cells
      rw [hv4] at HX0_0 HX0_1 HX0_2 HM_0 HM_1 HM_2 HM_3 HM_4 HX4_0 HX4_1 HX4_2
      go_wp2_with fail
      rw [← hv4]
      clear HX0_0 HX0_1 HX0_2 HM_0 HM_1 HM_2 HM_3 HM_4 HX4_0 HX4_1 HX4_2
      clear hv4 hn4
      generalize Value.slice y40 gR.1.length k40 = z40 at *
      generalize Value.slice y41 gR.2.1.length k41 = z41 at *
      generalize Value.slice y42 gR.2.2.length k42 = z42 at *
      --TICK b5
      obtain ⟨HX0_0, HX0_1, HX0_2⟩ := (HX0.out v4 (P4.out.then_ (P5.out.then_ (P6.out.then_ P7.out)))).cells
      obtain ⟨HM_0, HM_1, HM_2, HM_3, HM_4⟩ := (HM.out v4 (P4.out.then_ (P5.out.then_ (P6.out.then_ P7.out))))
      obtain ⟨HX4_0, HX4_1, HX4_2⟩ := (HX4.out v4 (Below.refl _ _)).cells
      go_wp2_with fail
      refine (hrrem.out v4 (P4.out.then_ (P5.out.then_ (P6.out.then_ P7.out)))).mono ?_
      rintro e wq ⟨x0, x1, x2, rfl, hr, hp, hf⟩
      have hX := BX.made hr
      obtain ⟨y50, k50, rfl⟩ := hr.1.shape
      obtain ⟨y51, k51, rfl⟩ := hr.2.1.shape
      obtain ⟨y52, k52, rfl⟩ := hr.2.2.shape
      obtain ⟨v5, hv5⟩ : ∃ W, W = wq.alloc (.cells #[.slice y50 gR.1.length k50, .slice y51 gR.2.1.length k51, .slice y52 gR.2.2.length k52] 33) := ⟨_, rfl⟩
      rw [← hv5] at hX
      clear HX0_0 HX0_1 HX0_2 HM_0 HM_1 HM_2 HM_3 HM_4 HX4_0 HX4_1 HX4_2
      have P8 := hid (show Pure v4 v5 from hp.then_ (by rw [hv5]; exact (Below.refl _ _).alloc (Nat.le_refl _) _))
      have HX5 := hid (fun W (hW : Pure v5 W) => hX.pure hW)
      have hsz5 := hid (show wq.heap.size < v5.heap.size from by rw [hv5]; simp)
      have hse5 := hid (show v5.heap.size = wq.heap.size + 1 from by rw [hv5]; simp)
      clear hr hp hf hX
      generalize hn5 : wq.heap.size = nv at *
      obtain ⟨HX0_0, HX0_1, HX0_2⟩ := (HX0.out v5 (P4.out.then_ (P5.out.then_ (P6.out.then_ (P7.out.then_ P8.out))))).cells
      obtain ⟨HM_0, HM_1, HM_2, HM_3, HM_4⟩ := (HM.out v5 (P4.out.then_ (P5.out.then_ (P6.out.then_ (P7.out.then_ P8.out)))))
      obtain ⟨HX4_0, HX4_1, HX4_2⟩ := (HX4.out v5 P8.out).cells
      obtain ⟨HX5_0, HX5_1, HX5_2⟩ := (HX5.out v5 (Below.refl _ _)).cells
      rw [hv5] at HX0_0 HX0_1 HX0_2 HM_0 HM_1 HM_2 HM_3 HM_4 HX4_0 HX4_1 HX4_2 HX5_0 HX5_1 HX5_2
      go_wp2_with fail
      rw [← hv5]
      clear HX0_0 HX0_1 HX0_2 HM_0 HM_1 HM_2 HM_3 HM_4 HX4_0 HX4_1 HX4_2 HX5_0 HX5_1 HX5_2
      clear hv5 hn5
      generalize Value.slice y50 gR.1.length k50 = z50 at *
      generalize Value.slice y51 gR.2.1.length k51 = z51 at *
      generalize Value.slice y52 gR.2.2.length k52 = z52 at *
      obtain ⟨HX0_0, HX0_1, HX0_2⟩ := (HX0.out v5 (P4.out.then_ (P5.out.then_ (P6.out.then_ (P7.out.then_ P8.out))))).cells
      obtain ⟨HM_0, HM_1, HM_2, HM_3, HM_4⟩ := (HM.out v5 (P4.out.then_ (P5.out.then_ (P6.out.then_ (P7.out.then_ P8.out)))))
      obtain ⟨HX4_0, HX4_1, HX4_2⟩ := (HX4.out v5 P8.out).cells
      obtain ⟨HX5_0, HX5_1, HX5_2⟩ := (HX5.out v5 (Below.refl _ _)).cells
      go_wp2_with fail
      refine (rsameP5 (HX4.out v5 P8.out).r (HX5.out v5 (Below.refl _ _)).r).mono ?_
      rintro e w16 ⟨rfl, hp⟩
      clear HX0_0 HX0_1 HX0_2 HM_0 HM_1 HM_2 HM_3 HM_4 HX4_0 HX4_1 HX4_2 HX5_0 HX5_1 HX5_2
      have P9 := hid (show Pure v5 w16 from hp)
      clear hp
      clear hrem hrrem
      --TICK r19
      have hS1 : Hid (∀ W, Pure w16 W → (W.cell? ⟨na, 0, none⟩ = some z10 ∧ W.cell? ⟨na, 1, none⟩ = some z11 ∧ W.cell? ⟨na, 2, none⟩ = some z12 ∧ W.cell? ⟨w.heap.size + 1, 0, none⟩ = some (.int .i64 ex) ∧ W.cell? ⟨w.heap.size + 1, 1, none⟩ = some (.int .i64 ey) ∧ W.cell? ⟨w.heap.size + 1, 2, none⟩ = some (.string (bs q6)) ∧ W.cell? ⟨w.heap.size + 1, 3, none⟩ = some (.string (bs eb)) ∧ W.cell? ⟨w.heap.size + 1, 4, none⟩ = some (.int .i64 mc) ∧ W.cell? ⟨w.heap.size + 1 + 1, 2, none⟩ = some (.int .i64 cnt) ∧ Pure w16 W)) := fun W hW => by
        obtain ⟨eHX00, eHX01, eHX02⟩ := (HX0.out W ((P4.out.then_ (P5.out.then_ (P6.out.then_ (P7.out.then_ (P8.out.then_ P9.out))))).then_ hW)).cells
        obtain ⟨eHM0, eHM1, eHM2, eHM3, eHM4⟩ := (HM.out W ((P4.out.then_ (P5.out.then_ (P6.out.then_ (P7.out.then_ (P8.out.then_ P9.out))))).then_ hW))
        have eHQ0 := (HQ.out W ((P4.out.then_ (P5.out.then_ (P6.out.then_ (P7.out.then_ (P8.out.then_ P9.out))))).then_ hW))
        exact ⟨eHX00, eHX01, eHX02, eHM0, eHM1, eHM2, eHM3, eHM4, eHQ0, hW⟩
      have hS2 : Hid (∀ W : World, (W.cell? ⟨na, 0, none⟩ = some z10 ∧ W.cell? ⟨na, 1, none⟩ = some z11 ∧ W.cell? ⟨na, 2, none⟩ = some z12 ∧ W.cell? ⟨w.heap.size + 1, 0, none⟩ = some (.int .i64 ex) ∧ W.cell? ⟨w.heap.size + 1, 1, none⟩ = some (.int .i64 ey) ∧ W.cell? ⟨w.heap.size + 1, 2, none⟩ = some (.string (bs q6)) ∧ W.cell? ⟨w.heap.size + 1, 3, none⟩ = some (.string (bs eb)) ∧ W.cell? ⟨w.heap.size + 1, 4, none⟩ = some (.int .i64 mc) ∧ W.cell? ⟨w.heap.size + 1 + 1, 2, none⟩ = some (.int .i64 cnt) ∧ Pure w16 W) → Pure w16 W) := fun W h => h.2.2.2.2.2.2.2.2.2
      have hst := hid (hS1.out w16.drew (Below.refl _ _).drew)
      go_wp2_with fail
      go_region_held3 (fun W => W.cell? ⟨na, 0, none⟩ = some z10 ∧ W.cell? ⟨na, 1, none⟩ = some z11 ∧ W.cell? ⟨na, 2, none⟩ = some z12 ∧ W.cell? ⟨w.heap.size + 1, 0, none⟩ = some (.int .i64 ex) ∧ W.cell? ⟨w.heap.size + 1, 1, none⟩ = some (.int .i64 ey) ∧ W.cell? ⟨w.heap.size + 1, 2, none⟩ = some (.string (bs q6)) ∧ W.cell? ⟨w.heap.size + 1, 3, none⟩ = some (.string (bs eb)) ∧ W.cell? ⟨w.heap.size + 1, 4, none⟩ = some (.int .i64 mc) ∧ W.cell? ⟨w.heap.size + 1 + 1, 2, none⟩ = some (.int .i64 cnt) ∧ Pure w16 W)
        (first | with_reducible exact hst.out | with_reducible assumption | with_reducible exact hS1.out _ (Pure.then_ (hS2.out _ (by assumption)) (by assumption)))
        ((first
          | (go_at_call 23; ((refine (hhan.out _ ((P4.out.then_ (P5.out.then_ (P6.out.then_ (P7.out.then_ (P8.out.then_ P9.out))))).then_ (hS2.out _ (by assumption)))).mono ?_)); rintro e w17 ⟨s0, s1, s2, rfl, h5, hp5⟩)
          | (go_at_call 24; ((refine (hrhan.out _ ((P4.out.then_ (P5.out.then_ (P6.out.then_ (P7.out.then_ (P8.out.then_ P9.out))))).then_ (hS2.out _ (by assumption)))).mono ?_)); rintro e w18 ⟨t0, t1, t2, rfl, h6, hp6⟩)
          | (go_at_call 21; ((refine (rsameP5 (h5.pure hp6) h6).mono ?_)); rintro e w19 ⟨rfl, hp7⟩)))
      have P10 := hid (show Pure w16 w19 from hS2.out w19 (by assumption))
      clear hst hS1 hS2
      clear h5 h6 hp5 hp6 hp7 hhan hrhan
      --TICK get
      obtain ⟨HX0_0, HX0_1, HX0_2⟩ := (HX0.out w19 (P4.out.then_ (P5.out.then_ (P6.out.then_ (P7.out.then_ (P8.out.then_ (P9.out.then_ P10.out))))))).cells
      obtain ⟨HM_0, HM_1, HM_2, HM_3, HM_4⟩ := (HM.out w19 (P4.out.then_ (P5.out.then_ (P6.out.then_ (P7.out.then_ (P8.out.then_ (P9.out.then_ P10.out)))))))
      go_wp2_with fail
      refine (hget.out w19 (P4.out.then_ (P5.out.then_ (P6.out.then_ (P7.out.then_ (P8.out.then_ (P9.out.then_ P10.out))))))).mono ?_
      rintro e wq ⟨rfl, hp⟩
      have hD := MX.made wq ((gx, gy), gq, gb, gc)
      obtain ⟨w20, hwn⟩ : ∃ W, W = wq.alloc (.cells #[.int .i64 gx, .int .i64 gy, .string (bs gq), .string (bs gb), .int .i64 gc] 41) := ⟨_, rfl⟩
      dsimp only at hD
      rw [← hwn] at hD
      clear HX0_0 HX0_1 HX0_2 HM_0 HM_1 HM_2 HM_3 HM_4
      have P11 := hid (show Pure w19 w20 from hp.then_ (by rw [hwn]; exact (Below.refl _ _).alloc (Nat.le_refl _) _))
      have HGnn := hid (fun W (hW : Pure w20 W) => (hD.pure hW).cells)
      clear hp hD
      generalize hn : wq.heap.size = nn at *
      obtain ⟨HX0_0, HX0_1, HX0_2⟩ := (HX0.out w20 (P4.out.then_ (P5.out.then_ (P6.out.then_ (P7.out.then_ (P8.out.then_ (P9.out.then_ (P10.out.then_ P11.out)))))))).cells
      obtain ⟨HM_0, HM_1, HM_2, HM_3, HM_4⟩ := (HM.out w20 (P4.out.then_ (P5.out.then_ (P6.out.then_ (P7.out.then_ (P8.out.then_ (P9.out.then_ (P10.out.then_ P11.out))))))))
      rw [hwn] at HX0_0 HX0_1 HX0_2 HM_0 HM_1 HM_2 HM_3 HM_4
      go_wp2_with fail
      rw [← hwn]
      clear HX0_0 HX0_1 HX0_2 HM_0 HM_1 HM_2 HM_3 HM_4
      clear hwn hn
      obtain ⟨HX0_0, HX0_1, HX0_2⟩ := (HX0.out w20 (P4.out.then_ (P5.out.then_ (P6.out.then_ (P7.out.then_ (P8.out.then_ (P9.out.then_ (P10.out.then_ P11.out)))))))).cells
      obtain ⟨HM_0, HM_1, HM_2, HM_3, HM_4⟩ := (HM.out w20 (P4.out.then_ (P5.out.then_ (P6.out.then_ (P7.out.then_ (P8.out.then_ (P9.out.then_ (P10.out.then_ P11.out))))))))
      obtain ⟨HGnn_0, HGnn_1, HGnn_2, HGnn_3, HGnn_4⟩ := (HGnn.out w20 (Below.refl _ _))
      go_wp2_with fail
      refine (hrget.out w20 (P4.out.then_ (P5.out.then_ (P6.out.then_ (P7.out.then_ (P8.out.then_ (P9.out.then_ (P10.out.then_ P11.out)))))))).mono ?_
      rintro e wq ⟨rfl, hp⟩
      have hD := MX.made wq ((gx, gy), gq, gb, gc)
      obtain ⟨w21, hwn⟩ : ∃ W, W = wq.alloc (.cells #[.int .i64 gx, .int .i64 gy, .string (bs gq), .string (bs gb), .int .i64 gc] 41) := ⟨_, rfl⟩
      dsimp only at hD
      rw [← hwn] at hD
      clear HX0_0 HX0_1 HX0_2 HM_0 HM_1 HM_2 HM_3 HM_4 HGnn_0 HGnn_1 HGnn_2 HGnn_3 HGnn_4
      have P12 := hid (show Pure w20 w21 from hp.then_ (by rw [hwn]; exact (Below.refl _ _).alloc (Nat.le_refl _) _))
      have HGno := hid (fun W (hW : Pure w21 W) => (hD.pure hW).cells)
      clear hp hD
      generalize hn : wq.heap.size = no at *
      obtain ⟨HX0_0, HX0_1, HX0_2⟩ := (HX0.out w21 (P4.out.then_ (P5.out.then_ (P6.out.then_ (P7.out.then_ (P8.out.then_ (P9.out.then_ (P10.out.then_ (P11.out.then_ P12.out))))))))).cells
      obtain ⟨HM_0, HM_1, HM_2, HM_3, HM_4⟩ := (HM.out w21 (P4.out.then_ (P5.out.then_ (P6.out.then_ (P7.out.then_ (P8.out.then_ (P9.out.then_ (P10.out.then_ (P11.out.then_ P12.out)))))))))
      obtain ⟨HGnn_0, HGnn_1, HGnn_2, HGnn_3, HGnn_4⟩ := (HGnn.out w21 P12.out)
      rw [hwn] at HX0_0 HX0_1 HX0_2 HM_0 HM_1 HM_2 HM_3 HM_4 HGnn_0 HGnn_1 HGnn_2 HGnn_3 HGnn_4
      go_wp2_with fail
      rw [← hwn]
      clear HX0_0 HX0_1 HX0_2 HM_0 HM_1 HM_2 HM_3 HM_4 HGnn_0 HGnn_1 HGnn_2 HGnn_3 HGnn_4
      clear hwn hn
      --TICK r22
      have hS1 : Hid (∀ W, Pure w21 W → (W.cell? ⟨na, 0, none⟩ = some z10 ∧ W.cell? ⟨na, 1, none⟩ = some z11 ∧ W.cell? ⟨na, 2, none⟩ = some z12 ∧ W.cell? ⟨w.heap.size + 1, 0, none⟩ = some (.int .i64 ex) ∧ W.cell? ⟨w.heap.size + 1, 1, none⟩ = some (.int .i64 ey) ∧ W.cell? ⟨w.heap.size + 1, 2, none⟩ = some (.string (bs q6)) ∧ W.cell? ⟨w.heap.size + 1, 3, none⟩ = some (.string (bs eb)) ∧ W.cell? ⟨w.heap.size + 1, 4, none⟩ = some (.int .i64 mc) ∧ Pure w21 W)) := fun W hW => by
        obtain ⟨eHX00, eHX01, eHX02⟩ := (HX0.out W ((P4.out.then_ (P5.out.then_ (P6.out.then_ (P7.out.then_ (P8.out.then_ (P9.out.then_ (P10.out.then_ (P11.out.then_ P12.out)))))))).then_ hW)).cells
        obtain ⟨eHM0, eHM1, eHM2, eHM3, eHM4⟩ := (HM.out W ((P4.out.then_ (P5.out.then_ (P6.out.then_ (P7.out.then_ (P8.out.then_ (P9.out.then_ (P10.out.then_ (P11.out.then_ P12.out)))))))).then_ hW))
        exact ⟨eHX00, eHX01, eHX02, eHM0, eHM1, eHM2, eHM3, eHM4, hW⟩
      have hS2 : Hid (∀ W : World, (W.cell? ⟨na, 0, none⟩ = some z10 ∧ W.cell? ⟨na, 1, none⟩ = some z11 ∧ W.cell? ⟨na, 2, none⟩ = some z12 ∧ W.cell? ⟨w.heap.size + 1, 0, none⟩ = some (.int .i64 ex) ∧ W.cell? ⟨w.heap.size + 1, 1, none⟩ = some (.int .i64 ey) ∧ W.cell? ⟨w.heap.size + 1, 2, none⟩ = some (.string (bs q6)) ∧ W.cell? ⟨w.heap.size + 1, 3, none⟩ = some (.string (bs eb)) ∧ W.cell? ⟨w.heap.size + 1, 4, none⟩ = some (.int .i64 mc) ∧ Pure w21 W) → Pure w21 W) := fun W h => h.2.2.2.2.2.2.2.2
      have hst := hid (hS1.out w21.drew (Below.refl _ _).drew)
      go_wp2_with fail
      go_region_held3 (fun W => W.cell? ⟨na, 0, none⟩ = some z10 ∧ W.cell? ⟨na, 1, none⟩ = some z11 ∧ W.cell? ⟨na, 2, none⟩ = some z12 ∧ W.cell? ⟨w.heap.size + 1, 0, none⟩ = some (.int .i64 ex) ∧ W.cell? ⟨w.heap.size + 1, 1, none⟩ = some (.int .i64 ey) ∧ W.cell? ⟨w.heap.size + 1, 2, none⟩ = some (.string (bs q6)) ∧ W.cell? ⟨w.heap.size + 1, 3, none⟩ = some (.string (bs eb)) ∧ W.cell? ⟨w.heap.size + 1, 4, none⟩ = some (.int .i64 mc) ∧ Pure w21 W)
        (first | with_reducible exact hst.out | with_reducible assumption | with_reducible exact hS1.out _ (Pure.then_ (hS2.out _ (by assumption)) (by assumption)))
        ((first
          | (go_at_call 26; ((refine (hque.out _ ((P4.out.then_ (P5.out.then_ (P6.out.then_ (P7.out.then_ (P8.out.then_ (P9.out.then_ (P10.out.then_ (P11.out.then_ P12.out)))))))).then_ (hS2.out _ (by assumption)))).mono ?_)); rintro e w22 ⟨s0, rfl, h5, hp5⟩)
          | (go_at_call 27; ((refine (hrque.out _ ((P4.out.then_ (P5.out.then_ (P6.out.then_ (P7.out.then_ (P8.out.then_ (P9.out.then_ (P10.out.then_ (P11.out.then_ P12.out)))))))).then_ (hS2.out _ (by assumption)))).mono ?_)); rintro e w23 ⟨t0, rfl, h6, hp6⟩)
          | (go_at_call 25; ((refine (hsm5.out _ _ _ _ (Row.pure h5 hp6) h6).mono ?_)); rintro e w24 ⟨rfl, hp7⟩)))
      have P13 := hid (show Pure w21 w24 from hS2.out w24 (by assumption))
      clear hst hS1 hS2
      clear h5 h6 hp5 hp6 hp7 hque hrque hget hrget
      --TICK r23
      have heq := fun W => msg_eqIn W gx gy gx gy gc gc (bs gq) (bs gb) (bs gq) (bs gb)
      simp only [decide_true, Bool.and_self] at heq
      obtain ⟨HX0_0, HX0_1, HX0_2⟩ := (HX0.out w24 (P4.out.then_ (P5.out.then_ (P6.out.then_ (P7.out.then_ (P8.out.then_ (P9.out.then_ (P10.out.then_ (P11.out.then_ (P12.out.then_ P13.out)))))))))).cells
      obtain ⟨HGnn_0, HGnn_1, HGnn_2, HGnn_3, HGnn_4⟩ := (HGnn.out w24 (P12.out.then_ P13.out))
      obtain ⟨HGno_0, HGno_1, HGno_2, HGno_3, HGno_4⟩ := (HGno.out w24 P13.out)
      go_wp2_with (go_at_call 17; refine (hby.out w24 (P4.out.then_ (P5.out.then_ (P6.out.then_ (P7.out.then_ (P8.out.then_ (P9.out.then_ (P10.out.then_ (P11.out.then_ (P12.out.then_ P13.out)))))))))).mono ?_; rintro e w25 ⟨rfl, hp25⟩; have HP25 := hid hp25)
      go_ret
      exact ⟨rfl, hpz7.out.then_ ((P4.out.then_ (P5.out.then_ (P6.out.then_ (P7.out.then_ (P8.out.then_ (P9.out.then_ (P10.out.then_ (P11.out.then_ (P12.out.then_ P13.out))))))))).then_ HP25.out)⟩
end Go.Proofs.YtbcbmnifbflmaaaGreat
