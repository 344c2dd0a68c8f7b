/- ref05's Join. -/
import Derived.Test.YtdlpnhfgjficgaaGreatJG
import Derived.Test.YtdlpnhfgjficgaaGreatMJm
import Derived.Test.YtdlpnhfgjficgaaGreatJL
namespace Go.Proofs.YtdlpnhfgjficgaaGreat
open Go.RowKit Go.Maps Go.Shelf Go.Sort

def jone (K : List Msg) (c : Dot → Bool) (m : Msg) : List Msg := match lget K m.1 with
  | some o => [bothM m o]
  | none => if c m.1 then [] else [m]
theorem jone_len (K : List Msg) (c : Dot → Bool) (m : Msg) : (jone K c m).length ≤ 1 := by
  unfold jone; split
  · simp
  · split <;> simp
theorem jl1_take (l K : List Msg) (c : Dot → Bool) (k : Nat) (h : k < l.length) : jl1 (l.take (k + 1)) K c = jl1 (l.take k) K c ++ jone K c (l.getD k m0) := by
  have e : ∀ x, jl1 x K c = x.flatMap (jone K c) := fun _ => rfl
  rw [e, e, take_succ_m l k h, List.flatMap_append]; simp
theorem jl1_len (K : List Msg) (c : Dot → Bool) : ∀ l, (jl1 l K c).length ≤ l.length
  | [] => by simp [jl1]
  | a :: l => by
    have e : jl1 (a :: l) K c = jone K c a ++ jl1 l K c := rfl
    have := jl1_len K c l
    have := jone_len K c a
    rw [e, List.length_append, List.length_cons]; omega
/-- A message in a box of its own. -/
structure MX (n : Nat) (m : Msg) (W : World) : Prop where
  b : W.heap[n]? = some (.cells #[.int .i64 m.1.1, .int .i64 m.1.2, .string (bs m.2.1), .string (bs m.2.2.1), .int .i64 m.2.2.2] 43 (0, 0))
theorem MX.pure {n : Nat} {m : Msg} {W W' : World} (h : MX n m W) (hp : Pure W W') : MX n m W' := ⟨(hp.block _ (lt_of_block h.b)).trans h.b⟩
theorem MX.made (w : World) (m : Msg) : MX w.heap.size m (w.alloc (.cells #[.int .i64 m.1.1, .int .i64 m.1.2, .string (bs m.2.1), .string (bs m.2.2.1), .int .i64 m.2.2.2] 43)) := ⟨block_alloc_new _ _⟩
theorem MX.cells {n : Nat} {x y : Int} {q b : List UInt8} {c : Int} {W : World} (h : MX n ((x, y), q, b, c) W) : W.cell? ⟨n, 0, none⟩ = some (.int .i64 x) ∧ W.cell? ⟨n, 1, none⟩ = some (.int .i64 y) ∧ W.cell? ⟨n, 2, none⟩ = some (.string (bs q)) ∧ W.cell? ⟨n, 3, none⟩ = some (.string (bs b)) ∧ W.cell? ⟨n, 4, none⟩ = some (.int .i64 c) :=
  ⟨cell_of_block h.b 0, cell_of_block h.b 1, cell_of_block h.b 2, cell_of_block h.b 3, cell_of_block h.b 4⟩

set_option maxRecDepth 8000 in
set_option maxHeartbeats 8000000 in
theorem rjoin5_any (v0 v1 v2 u0 u1 u2 : Value) (g h : Bag) (w : World) (hr : BR3 v0 v1 v2 g w) (hs : BR3 u0 u1 u2 h w) (hg : BV g) (hh : BV h) (hll : g.1.length + h.1.length ≤ 900) (hlc : g.2.1.length + g.2.2.length + (h.2.1.length + h.2.2.length) ≤ 3000) :
    Calls Tryz.prog 54 #[.agg #[v0, v1, v2], .agg #[u0, u1, u2]] w (BagO w (bjoin g h)) := by
  have hxg : Sml 3000 g.2 := ⟨hg.ok, by omega, by omega⟩
  have hxh : Sml 3000 h.2 := ⟨hh.ok, by omega, by omega⟩
  have hbj := hid (show bjoin g h = (msort (jl1 g.1 h.1 (chas h.2.1 h.2.2) ++ jl2 h.1 (chas g.2.1 g.2.2)), Jn g.2 h.2) from rfl)
  obtain ⟨a0, c0, e0⟩ := hr.1.shape
  obtain ⟨b0, k0, f0⟩ := hs.1.shape
  subst e0
  subst f0
  obtain ⟨wz, hwz⟩ : ∃ wz, wz = ((w.alloc (.cells #[.slice a0 g.1.length c0, v1, v2] 34)).alloc (.cells #[.slice b0 h.1.length k0, u1, u2] 34)).alloc (.cells #[.slice none 0 0, .slice none 0 0, .slice none 0 0] 34) := ⟨_, rfl⟩
  have Hpz := hid (show Pure w wz from by rw [hwz]; exact (((Below.refl _ _).alloc (Nat.le_refl _) _).alloc (by simp) _).alloc (by simp; omega) _)
  have hsz : wz.heap.size = w.heap.size + 3 := by rw [hwz]; simp
  have n1 := block_alloc_new (w.alloc (.cells #[.slice a0 g.1.length c0, v1, v2] 34)) (.cells #[.slice b0 h.1.length k0, u1, u2] 34)
  have n2 := block_alloc_new ((w.alloc (.cells #[.slice a0 g.1.length c0, v1, v2] 34)).alloc (.cells #[.slice b0 h.1.length k0, u1, u2] 34)) (.cells #[.slice none 0 0, .slice none 0 0, .slice none 0 0] 34)
  simp only [World.size_alloc] at n1 n2
  have hbk : Hid (wz.heap[w.heap.size]? = some (.cells #[.slice a0 g.1.length c0, v1, v2] 34 (0, 0)) ∧ wz.heap[w.heap.size + 1]? = some (.cells #[.slice b0 h.1.length k0, u1, u2] 34 (0, 0)) ∧ RsB (w.heap.size + 1 + 1) wz) := by
    show _ ∧ _ ∧ wz.heap[w.heap.size + 1 + 1]? = _
    rw [hwz]
    exact ⟨block_alloc_old (block_alloc_old (block_alloc_new _ _) _) _, block_alloc_old n1 _, n2⟩
  clear n1 n2
  have HF : Hid (∀ W, Kept (fun k => k = w.heap.size + 1 + 1) wz W → (W.cell? ⟨w.heap.size, 0, none⟩ = some (.slice a0 g.1.length c0) ∧ W.cell? ⟨w.heap.size, 1, none⟩ = some v1 ∧ W.cell? ⟨w.heap.size, 2, none⟩ = some v2 ∧ W.cell? ⟨w.heap.size + 1, 0, none⟩ = some (.slice b0 h.1.length k0) ∧ W.cell? ⟨w.heap.size + 1, 1, none⟩ = some u1 ∧ W.cell? ⟨w.heap.size + 1, 2, none⟩ = some u2 ∧ Kept (fun k => k = w.heap.size + 1 + 1) wz W)) := fun W hW => by
    have e0 := (hW.block _ (lt_of_block hbk.out.1) (by omega)).trans hbk.out.1
    have e1 := (hW.block _ (lt_of_block hbk.out.2.1) (by omega)).trans hbk.out.2.1
    exact ⟨cell_of_block e0 0, cell_of_block e0 1, cell_of_block e0 2, cell_of_block e1 0, cell_of_block e1 1, cell_of_block e1 2, hW⟩
  have HL := hid (fun W (hW : Pure wz W) => (show Msgs W _ g.1 from Row.pure hr.1 (Hpz.out.then_ hW)))
  have HK := hid (fun W (hW : Pure wz W) => (show Msgs W _ h.1 from Row.pure hs.1 (Hpz.out.then_ hW)))
  have Hget := hid (fun W (hW : Pure wz W) d => rget_any _ _ _ h d W (hs.pure (Hpz.out.then_ hW)))
  have Hhas1 := hid (fun W (hW : Pure wz W) d => (show Calls _ _ _ _ _ from rchas_any u1 u2 h.2.1 h.2.2 d W (Row.pure hs.2.1 (Hpz.out.then_ hW)) (Row.pure hs.2.2 (Hpz.out.then_ hW))))
  have Hhas0 := hid (fun W (hW : Pure wz W) d => (show Calls _ _ _ _ _ from rchas_any v1 v2 g.2.1 g.2.2 d W (Row.pure hr.2.1 (Hpz.out.then_ hW)) (Row.pure hr.2.2 (Hpz.out.then_ hW))))
  have hk2 : ∀ k, k < w.heap.size → ¬ k = w.heap.size + 1 + 1 := fun k h => by omega
  have Hjn := hid (fun W (hW : Kept (fun k => k = w.heap.size + 1 + 1) wz W) => (show Calls Tryz.prog 50 #[.agg #[v1, v2], .agg #[u1, u2]] W (fun e w' => CtxF W (Jn g.2 h.2).1 (Jn g.2 h.2).2 e w' ∧ w.heap.size + 3 ≤ W.heap.size) from
    (rjoinL_any v1 v2 u1 u2 g.2.1 g.2.2 h.2.1 h.2.2 W (Row.kept (Row.pure hr.2.1 Hpz.out) hW (fun k hk => hk2 k (Row.lt hr.2.1 k hk))) (Row.kept (Row.pure hr.2.2 Hpz.out) hW (fun k hk => hk2 k (Row.lt hr.2.2 k hk))) (Row.kept (Row.pure hs.2.1 Hpz.out) hW (fun k hk => hk2 k (Row.lt hs.2.1 k hk))) (Row.kept (Row.pure hs.2.2 Hpz.out) hW (fun k hk => hk2 k (Row.lt hs.2.2 k hk)))
      (by omega) hxg.bd hxh.bd).mono fun _ _ h => ⟨h, hsz ▸ hW.size⟩))
  unfold CtxF at Hjn
  have Hsz := hid hsz
  have hl1 := hid (fun k => jl1_len h.1 (chas h.2.1 h.2.2) (g.1.take k))
  obtain ⟨L, X⟩ := g
  obtain ⟨K, Y⟩ := h
  dsimp only at *
  generalize hcg : chas X.1 X.2 = cg at *
  generalize hch : chas Y.1 Y.2 = ch at *
  clear hcg hch hr hs hg hh hxg hxh
  have hLK : L.length + K.length ≤ 900 := hll
  clear hll hlc hsz
  unfold dv at *
  go_enter Tryz.func54, Tryz.ntmps54
  go_wp2_with fail
  rw [← hwz]
  clear hwz
  go_loopw [5, 6] (fun v i wr => ∃ k : Nat, k ≤ L.length ∧ i = .int .i64 k ∧ wr.ownsRow wz.heap.size 43 5 v (jl1 (L.take k) K ch).length (mvs (jl1 (L.take k) K ch)) ∧ Pure wz wr) (fun _ i _ => L.length - (RowKit.intOf i).toNat)
  case atStart => exact ⟨0, Nat.zero_le _, rfl, World.ownsRow_nil _ _ _ _, Below.refl _ _⟩
  case round =>
    obtain ⟨k, hk, rfl, hown, hp⟩ := hrel
    obtain ⟨f0, f1, f2, f3, f4, f5, -⟩ := HF.out wr (Pure.kept hp)
    by_cases hlt : k < L.length
    · have hlt' : (k : Int) < (L.length : Int) := by omega
      obtain ⟨b, off, rfl, hb, z0, z1, z2, z3, z4⟩ := Msgs.get (HL.out wr hp) hlt
      have Hstep := hid (jl1_take L K ch k hlt)
      have hYl : (jl1 (L.take k) K ch).length ≤ k := Nat.le_trans (hl1.out k) (by rw [List.length_take]; omega)
      generalize jl1 (L.take k) K ch = Yl at *
      generalize L.getD k m0 = z at *
      have Hp := hid hp
      obtain ⟨⟨zx, zy⟩, zq, zb, zc⟩ := z
      dsimp only at z0 z1 z2 z3 z4
      obtain ⟨wa, hwa⟩ : ∃ wa, wa = wr.alloc (.cells #[.int .i64 zx, .int .i64 zy, .string (bs zq), .string (bs zb), .int .i64 zc] 43) := ⟨_, rfl⟩
      have hpa : Pure wr wa := by rw [hwa]; exact (Below.refl _ _).alloc (Nat.le_refl _) _
      have hma : MX wr.heap.size ((zx, zy), zq, zb, zc) wa := by rw [hwa]; exact MX.made wr ((zx, zy), zq, zb, zc)
      have Hpa := hid (hp.then_ hpa)
      have HMa := hid hma
      have Hown := hid (fun W (hW : Pure wa W) => own_pure hown (hpa.then_ hW))
      obtain ⟨a3, c3, rfl⟩ := own_shape_d hown
      have Hg := hid (Hget.out wa Hpa.out (zx, zy))
      have Hh := hid (fun W (hW : Pure wa W) => Hhas1.out W (Hpa.out.then_ hW) (zx, zy))
      have hj := hid (show jone K ch ((zx, zy), zq, zb, zc) = (match lget K (zx, zy) with
        | some o => [bothM ((zx, zy), zq, zb, zc) o]
        | none => if ch (zx, zy) then [] else [((zx, zy), zq, zb, zc)]) from rfl)
      rw [hj.out] at Hstep
      clear hj
      generalize lget K (zx, zy) = o at *
      generalize ch (zx, zy) = ct at *
      have hsa := Hpa.out.size
      obtain ⟨m0', m1', m2', m3', m4'⟩ := hma.cells
      have g3 := pat hpa f3
      have g4 := pat hpa f4
      have g5 := pat hpa f5
      have hn0 : wr.heap.size < wa.heap.size := by rw [hwa]; simp
      have Hn0 := hid hn0
      rw [hwa] at m0' m1' m2' m3' m4' g3 g4 g5
      clear hown hp hpa hma hb
      dsimp only at Hg Hh
      go_wp2_with fail
      rw [← hwa]
      clear hwa m0' m1' m2' m3' m4' g3 g4 g5 z0 z1 z2 z3 z4
      cases o with
      | some x =>
        obtain ⟨⟨xx, xy⟩, xq, xb, xc⟩ := x
        simp only [getR, mv, Option.getD_some, Option.isSome_some] at Hg
        dsimp only at Hstep
        refine Hg.out.mono ?_
        rintro e w1 ⟨rfl, hp1⟩
        obtain ⟨wb, hwb⟩ : ∃ wb, wb = w1.alloc (.cells #[.int .i64 xx, .int .i64 xy, .string (bs xq), .string (bs xb), .int .i64 xc] 43) := ⟨_, rfl⟩
        have hpb : Pure w1 wb := by rw [hwb]; exact (Below.refl _ _).alloc (Nat.le_refl _) _
        have hmb : MX w1.heap.size ((xx, xy), xq, xb, xc) wb := by rw [hwb]; exact MX.made w1 ((xx, xy), xq, xb, xc)
        have Hpb := hid (hp1.then_ hpb)
        have HMb := hid hmb
        obtain ⟨m0', m1', m2', m3', m4'⟩ := (HMa.out.pure Hpb.out).cells
        obtain ⟨-, -, -, f3', f4', f5', -⟩ := HF.out wb (Pure.kept (Hpa.out.then_ Hpb.out))
        rw [hwb] at m0' m1' m2' m3' m4' f3' f4' f5'
        have Hh1 := hid (Hh.out wb Hpb.out)
        have hs1 := hp1.size
        clear hp1 hpb hmb f0 f1 f2 f3 f4 f5 Hg Hh
        go_wp2_with fail
        rw [← hwb]
        clear hwb m0' m1' m2' m3' m4' f3' f4' f5'
        refine Hh1.out.mono ?_
        rintro e w2 ⟨rfl, hp2⟩
        have Hp2 := hid (Hpb.out.then_ hp2)
        obtain ⟨m0', m1', m2', m3', m4'⟩ := (HMa.out.pure Hp2.out).cells
        obtain ⟨n0', n1', n2', n3', n4'⟩ := (HMb.out.pure hp2).cells
        have Hb := hid (rboth_any ((zx, zy), zq, zb, zc) ((xx, xy), xq, xb, xc) w2)
        generalize bothM ((zx, zy), zq, zb, zc) ((xx, xy), xq, xb, xc) = y at *
        obtain ⟨⟨yx, yy⟩, yq, yb, yc⟩ := y
        unfold mv at Hb
        dsimp only at Hb
        clear hp2 Hh1
        go_wp2_with fail
        clear m0' m1' m2' m3' m4' n0' n1' n2' n3' n4'
        refine Hb.out.mono ?_
        rintro e w3 ⟨rfl, hp3⟩
        have H3 := hid (Hp2.out.then_ hp3)
        have hs3 := H3.out.size
        clear hp3 Hb
        have b4 : wz.heap.size ≤ (w3.alloc (.cells #[.int .i64 yx, .int .i64 yy, .string (bs yq), .string (bs yb), .int .i64 yc] 43)).heap.size := by simp; omega
        go_wp2_with (at_builtin; refine wpList_append_msgs rfl _ _ rfl wz.heap.size _ Yl Yl.length rfl ((Hown.out w3 H3.out).alloc _) _ [((yx, yy), yq, yb, yc)] 1 rfl (msgs_lit w3 ((yx, yy), yq, yb, yc)) (by omega) b4 ?_)
        intro v4 w4 hown4 hg4
        have Hown4 := hid hown4
        have hpn := hid (((Hpa.out.then_ H3.out).alloc (by omega) _).grown hg4 (by simp; omega) (fun k hk => ((Hown.out w3 H3.out).lt k hk).1))
        clear hown4 hg4
        go_wp2
        go_roundw
        case rel => exact ⟨k + 1, by omega, by go_num, by rw [Hstep.out]; simpa using Hown4.out, hpn.out⟩
        case measure => simp [RowKit.intOf]; omega
      | none =>
        have hg0 : getR none = .tuple #[.agg #[.int .i64 0, .int .i64 0, .string ⟨#[]⟩, .string ⟨#[]⟩, .int .i64 0], .bool false] := rfl
        rw [hg0] at Hg
        clear hg0
        dsimp only at Hstep
        refine Hg.out.mono ?_
        rintro e w1 ⟨rfl, hp1⟩
        obtain ⟨wb, hwb⟩ : ∃ wb, wb = w1.alloc (.cells #[.int .i64 0, .int .i64 0, .string ⟨#[]⟩, .string ⟨#[]⟩, .int .i64 0] 43) := ⟨_, rfl⟩
        have hpb : Pure w1 wb := by rw [hwb]; exact (Below.refl _ _).alloc (Nat.le_refl _) _
        have Hpb := hid (hp1.then_ hpb)
        obtain ⟨m0', m1', m2', m3', m4'⟩ := (HMa.out.pure Hpb.out).cells
        obtain ⟨-, -, -, f3', f4', f5', -⟩ := HF.out wb (Pure.kept (Hpa.out.then_ Hpb.out))
        rw [hwb] at m0' m1' m2' m3' m4' f3' f4' f5'
        have Hh1 := hid (Hh.out wb Hpb.out)
        have hs1 := hp1.size
        clear hp1 hpb f0 f1 f2 f3 f4 f5 Hg Hh
        go_wp2_with fail
        rw [← hwb]
        clear hwb m0' m1' m2' m3' m4' f3' f4' f5'
        refine Hh1.out.mono ?_
        rintro e w2 ⟨rfl, hp2⟩
        have Hp2 := hid (Hpb.out.then_ hp2)
        obtain ⟨m0', m1', m2', m3', m4'⟩ := (HMa.out.pure Hp2.out).cells
        clear hp2 Hh1
        cases ct with
        | true =>
          simp only [if_true, List.append_nil] at Hstep
          go_wp2
          go_roundw
          case rel => exact ⟨k + 1, by omega, by go_num, by rw [Hstep.out]; exact Hown.out w2 Hp2.out, Hpa.out.then_ Hp2.out⟩
          case measure => simp [RowKit.intOf]; omega
        | false =>
          simp only [Bool.false_eq_true, if_false] at Hstep
          have hs3 := Hp2.out.size
          have b4 : wz.heap.size ≤ (w2.alloc (.cells #[.int .i64 zx, .int .i64 zy, .string (bs zq), .string (bs zb), .int .i64 zc] 43)).heap.size := by simp; omega
          go_wp2_with (at_builtin; refine wpList_append_msgs rfl _ _ rfl wz.heap.size _ Yl Yl.length rfl ((Hown.out w2 Hp2.out).alloc _) _ [((zx, zy), zq, zb, zc)] 1 rfl (msgs_lit w2 ((zx, zy), zq, zb, zc)) (by omega) b4 ?_)
          intro v4 w4 hown4 hg4
          have Hown4 := hid hown4
          have hpn := hid (((Hpa.out.then_ Hp2.out).alloc (by omega) _).grown hg4 (by simp; omega) (fun k hk => ((Hown.out w2 Hp2.out).lt k hk).1))
          clear hown4 hg4
          go_wp2
          go_roundw
          case rel => exact ⟨k + 1, by omega, by go_num, by rw [Hstep.out]; simpa using Hown4.out, hpn.out⟩
          case measure => simp [RowKit.intOf]; omega
    · have hlt' : ¬ (k : Int) < (L.length : Int) := by omega
      rw [List.take_of_length_le (by omega)] at hown
      have hl0 : (jl1 L K ch).length ≤ L.length := jl1_len K ch L
      obtain ⟨Y1, hY1⟩ : ∃ Y1, jl1 L K ch = Y1 := ⟨_, rfl⟩
      rw [hY1] at hown hl0 hbj
      have Hown := hid (fun W (hW : Pure wr W) => own_pure hown hW)
      obtain ⟨a3, c3, rfl⟩ := own_shape_d hown
      have Hp := hid hp
      have Hsr := hid hp.size
      clear hown hp hY1 hl1 Hget HL Hhas1
      go_wp2_with fail
      clear f0 f1 f2 f3 f4 f5
      go_loopw [5, 11] (fun v i wr => ∃ k : Nat, k ≤ K.length ∧ i = .int .i64 k ∧ wr.ownsRow wz.heap.size 43 5 v (Y1 ++ jl2 (K.take k) cg).length (mvs (Y1 ++ jl2 (K.take k) cg)) ∧ Pure wz wr) (fun _ i _ => K.length - (RowKit.intOf i).toNat)
      case atStart => exact ⟨0, Nat.zero_le _, rfl, by simpa [jl2] using Hown.out wr (Below.refl _ _), Hp.out⟩
      case round =>
        obtain ⟨k, hk, rfl, hown, hp⟩ := hrel
        obtain ⟨f0, f1, f2, f3, f4, f5, -⟩ := HF.out wr (Pure.kept hp)
        by_cases hlt : k < K.length
        · have hlt' : (k : Int) < (K.length : Int) := by omega
          obtain ⟨b, off, rfl, hb, z0, z1, z2, z3, z4⟩ := Msgs.get (HK.out wr hp) hlt
          have Hstep := hid (show jl2 (K.take (k + 1)) cg = jl2 (K.take k) cg ++ (if (!cg (K.getD k m0).1) then [K.getD k m0] else []) from filt_take _ K k hlt)
          have hYl : (Y1 ++ jl2 (K.take k) cg).length ≤ L.length + k := by
            rw [List.length_append]
            have := List.length_filter_le (fun m : Msg => !cg m.1) (K.take k)
            rw [List.length_take] at this
            unfold jl2; omega
          have Hs2 := hid (show Y1 ++ jl2 (K.take (k + 1)) cg = (Y1 ++ jl2 (K.take k) cg) ++ (if (!cg (K.getD k m0).1) then [K.getD k m0] else []) from by rw [Hstep.out, List.append_assoc])
          generalize Y1 ++ jl2 (K.take k) cg = Yl at *
          generalize K.getD k m0 = z at *
          clear Hstep
          have Hp2 := hid hp
          obtain ⟨⟨zx, zy⟩, zq, zb, zc⟩ := z
          dsimp only at z0 z1 z2 z3 z4
          obtain ⟨wa, hwa⟩ : ∃ wa, wa = wr.alloc (.cells #[.int .i64 zx, .int .i64 zy, .string (bs zq), .string (bs zb), .int .i64 zc] 43) := ⟨_, rfl⟩
          have hpa : Pure wr wa := by rw [hwa]; exact (Below.refl _ _).alloc (Nat.le_refl _) _
          have hma : MX wr.heap.size ((zx, zy), zq, zb, zc) wa := by rw [hwa]; exact MX.made wr ((zx, zy), zq, zb, zc)
          have Hpa := hid (hp.then_ hpa)
          have HMa := hid hma
          have Hown2 := hid (fun W (hW : Pure wa W) => own_pure hown (hpa.then_ hW))
          obtain ⟨a4, c4, rfl⟩ := own_shape_d hown
          have Hh := hid (Hhas0.out wa (Hp2.out.then_ hpa) (zx, zy))
          dsimp only at Hs2 Hh
          generalize cg (zx, zy) = ct at *
          have hsa := Hpa.out.size
          obtain ⟨m0', m1', m2', m3', m4'⟩ := hma.cells
          have g1 := pat hpa f1
          have g2 := pat hpa f2
          rw [hwa] at m0' m1' m2' m3' m4' g1 g2
          clear hown hp hpa hma hb
          go_wp2_with fail
          rw [← hwa]
          clear hwa m0' m1' m2' m3' m4' g1 g2 z0 z1 z2 z3 z4 f0 f1 f2 f3 f4 f5
          refine Hh.out.mono ?_
          rintro e w2 ⟨rfl, hp2⟩
          have H2 := hid hp2
          obtain ⟨m0', m1', m2', m3', m4'⟩ := (HMa.out.pure hp2).cells
          have hs3 := hp2.size
          clear hp2 Hh
          cases ct with
          | true =>
            simp only [Bool.not_true, Bool.false_eq_true, if_false, List.append_nil] at Hs2
            go_wp2
            go_roundw
            case rel => exact ⟨k + 1, by omega, by go_num, by rw [Hs2.out]; exact Hown2.out w2 H2.out, Hpa.out.then_ H2.out⟩
            case measure => simp [RowKit.intOf]; omega
          | false =>
            simp only [Bool.not_false, if_true] at Hs2
            have b4 : wz.heap.size ≤ (w2.alloc (.cells #[.int .i64 zx, .int .i64 zy, .string (bs zq), .string (bs zb), .int .i64 zc] 43)).heap.size := by simp; omega
            go_wp2_with (at_builtin; refine wpList_append_msgs rfl _ _ rfl wz.heap.size _ Yl Yl.length rfl ((Hown2.out w2 H2.out).alloc _) _ [((zx, zy), zq, zb, zc)] 1 rfl (msgs_lit w2 ((zx, zy), zq, zb, zc)) (by omega) b4 ?_)
            intro v4 w4 hown4 hg4
            have Hown4 := hid hown4
            have hpn := hid (((Hpa.out.then_ H2.out).alloc (by omega) _).grown hg4 (by simp; omega) (fun k hk => ((Hown2.out w2 H2.out).lt k hk).1))
            clear hown4 hg4
            go_wp2
            go_roundw
            case rel => exact ⟨k + 1, by omega, by go_num, by rw [Hs2.out, List.length_append]; exact Hown4.out, hpn.out⟩
            case measure => simp [RowKit.intOf]; omega
        · have hlt' : ¬ (k : Int) < (K.length : Int) := by omega
          rw [List.take_of_length_le (by omega)] at hown
          have hzl : (Y1 ++ jl2 K cg).length ≤ 900 := by
            rw [List.length_append]
            have := List.length_filter_le (fun m : Msg => !cg m.1) K
            unfold jl2; omega
          generalize Y1 ++ jl2 K cg = Z at *
          obtain ⟨a4, c4, rfl⟩ := own_shape_d hown
          have Hpz2 := hid (Hpz.out.then_ hp)
          have hr0 : Hid (RsB (w.heap.size + 1 + 1) wr.drew) := (show RsB (w.heap.size + 1 + 1) wr from (hp.block _ (lt_of_block hbk.out.2.2)).trans hbk.out.2.2)
          have hS : Hid (∀ W, Kept (fun k => k = w.heap.size + 1 + 1) wr W → (W.cell? ⟨w.heap.size, 1, none⟩ = some v1 ∧ W.cell? ⟨w.heap.size, 2, none⟩ = some v2 ∧ W.cell? ⟨w.heap.size + 1, 1, none⟩ = some u1 ∧ W.cell? ⟨w.heap.size + 1, 2, none⟩ = some u2 ∧ Kept (fun k => k = w.heap.size + 1 + 1) wr W)) := fun W hW => by
            obtain ⟨-, e1, e2, -, e4, e5, -⟩ := HF.out W (Kept.trans (Pure.kept hp) hW)
            exact ⟨e1, e2, e4, e5, hW⟩
          have hst := hid (hS.out wr.drew (Kept.refl _ _).drew)
          have hS2 : Hid (∀ W : World, (W.cell? ⟨w.heap.size, 1, none⟩ = some v1 ∧ W.cell? ⟨w.heap.size, 2, none⟩ = some v2 ∧ W.cell? ⟨w.heap.size + 1, 1, none⟩ = some u1 ∧ W.cell? ⟨w.heap.size + 1, 2, none⟩ = some u2 ∧ Kept (fun k => k = w.heap.size + 1 + 1) wr W) → Kept (fun k => k = w.heap.size + 1 + 1) wr W) := fun W h => h.2.2.2.2
          have hss := Hpz2.out.size
          have hs3 : w.heap.size + 3 ≤ wr.heap.size := by have := Hsz.out; have := hp.size; omega
          have hsr := hid (fun W (hW : Kept (fun k => k = w.heap.size + 1 + 1) wr W) => (show Calls Tryz.prog 103 #[.slice a4 Z.length c4] W (fun e w' => (∃ v', e = .returned v' ∧ w'.ownsRow W.heap.size 43 5 v' (msort Z).length (mvs (msort Z)) ∧ Pure W w') ∧ w.heap.size + 3 ≤ W.heap.size) from
            (rsorted_any (.slice a4 Z.length c4) Z W (Row.kept (Row.of_own hown : Msgs wr (.slice a4 Z.length c4) Z) hW (fun k hk e => by have := (hown.lt k (rb_own hk)).1; have := Hsz.out; omega)) (by omega)).mono fun _ _ h => ⟨h, Nat.le_trans hs3 hW.size⟩))
          have hjn := hid (fun W (hW : Kept (fun k => k = w.heap.size + 1 + 1) wr W) => Hjn.out W (Kept.trans (Pure.kept hp) hW))
          clear hown hp HF HK Hjn Hhas0 Hown Hp hss hzl
          go_wp2_with fail
          clear f0 f1 f2 f3 f4 f5
          go_region_held3 (fun W => W.cell? ⟨w.heap.size, 1, none⟩ = some v1 ∧ W.cell? ⟨w.heap.size, 2, none⟩ = some v2 ∧ W.cell? ⟨w.heap.size + 1, 1, none⟩ = some u1 ∧ W.cell? ⟨w.heap.size + 1, 2, none⟩ = some u2 ∧ Kept (fun k => k = w.heap.size + 1 + 1) wr W)
            (first | with_reducible exact hst.out | with_reducible exact Hid.out (by assumption) | with_reducible exact hS.out _ (Kept.trans (hS2.out _ (by assumption)) (Pure.kept (by assumption))) | exact hS.out _ (Kept.setCell (Kept.setCell (Kept.setCell (hS2.out _ (by assumption)) (fun _ => rfl) _) (fun _ => rfl) _) (fun _ => rfl) _))
            ((first
              | (go_at_call 103; (with_reducible refine (hsr.out _ (hS2.out _ (by assumption))).mono ?_); rintro e w7 ⟨⟨v7, rfl, hd7, hp7⟩, hz7⟩; obtain ⟨a7, c7, rfl⟩ := own_shape_d hd7; obtain ⟨hr7, x70, x71, x72, f70, f71, f72⟩ := RsB.go (by assumption) hp7; have hs7 := hid (hS.out w7 (Kept.trans (hS2.out _ (by assumption)) (Pure.kept hp7))))
              | (go_at_call 50; (with_reducible refine (hjn.out _ (hS2.out _ (by assumption))).mono ?_); rintro e w8 ⟨⟨t1, t2, rfl, hd8, he8, hp8, hf8, hg8⟩, hz8⟩; obtain ⟨a8, c8, rfl⟩ := hd8.shape; obtain ⟨b8, k8, rfl⟩ := he8.shape; obtain ⟨hr8, x80, x81, x82, f80, f81, f82⟩ := RsB.go (by assumption) hp8)))
          have hk9 : Kept (fun k => k = w.heap.size + 1 + 1) wr w8 := Kept.trans (hS2.out _ hs7.out) (Pure.kept hp8)
          have hw8 : Pure w w8 := (Kept.trans (Pure.kept (S := fun k => w.heap.size ≤ k) Hpz2.out) (hk9.mono (fun k _ e => (show w.heap.size ≤ k by omega)))).below (Nat.le_refl _) (fun k hk e => by omega)
          have hd98 := own_pure hd7 hp8
          obtain ⟨t0, t1, t2, hfin⟩ := bag_ret (w := w) (g := bjoin (L, X) (K, Y)) hr8.out (by omega) hw8 (by rw [hbj.out]; exact (show BR3 _ _ _ (msort Z, (Jn X Y).1, (Jn X Y).2) w8 from ⟨Row.of_own hd98, hd8, he8⟩))
            ⟨fun k hk => by have := (hd98.lt k (rb_own hk)).1; omega, fun k hk => by have := hf8 k hk; omega, fun k hk => by have := hg8 k hk; omega⟩
          have T0 := hid t0
          have T1 := hid t1
          have T2 := hid t2
          have Hfin := hid hfin
          clear t0 t1 t2 hfin hd7 hd8 he8 hd98 hp7 hp8 hw8 hk9 hs7 hr7 hr8 x70 x71 x72 f70 f71 f72 x80 x81 x82 f80 f81 f82 hst hS hS2 hsr hjn hf8 hg8
          go_wp2
          exact bodyPost_ret (v := .agg #[.slice a7 (msort Z).length c7, .slice a8 (Jn X Y).1.length c8, .slice b8 (Jn X Y).2.length k8]) (by simp [results, Tryz.results54, go_sem, T0.out, T1.out, T2.out]) rfl Hfin.out
end Go.Proofs.YtdlpnhfgjficgaaGreat
