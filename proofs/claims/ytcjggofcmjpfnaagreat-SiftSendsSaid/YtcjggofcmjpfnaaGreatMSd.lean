/- sift: Nodes, Differ. sift: mark, Marks. law06: awake. law06: a plan's bag, as data; ref05's Put of a name that was seen. -/
import Derived.Test.YtcjggofcmjpfnaaGreatMSa
import Derived.Test.YtcjggofcmjpfnaaGreatMEq
import Derived.WalkMore
import Derived.Test.YtcjggofcmjpfnaaGreatByC
namespace Go.Proofs.YtcjggofcmjpfnaaGreat
open Go.RowKit Go.Maps Go.Shelf Go.Sort

theorem bbox1 (w : World) (a0 a1 a2 : Value) : ∃ wz, wz = w.alloc (.cells #[a0, a1, a2] 31) ∧ Hid (Pure w wz) ∧ Hid (∀ W, Pure wz W → (W.cell? ⟨w.heap.size, 0, none⟩ = some a0 ∧ W.cell? ⟨w.heap.size, 1, none⟩ = some a1 ∧ W.cell? ⟨w.heap.size, 2, none⟩ = some a2 ∧ Pure wz W)) := by
  refine ⟨_, rfl, (Below.refl _ _).alloc (Nat.le_refl _) _, fun W hW => ?_⟩
  have e0 := (hW.block _ (lt_of_block (block_alloc_new w (.cells #[a0, a1, a2] 31)))).trans (block_alloc_new w (.cells #[a0, a1, a2] 31))
  exact ⟨cell_of_block e0 0, cell_of_block e0 1, cell_of_block e0 2, hW⟩
theorem bbox2 (w : World) (a0 a1 a2 b0 b1 b2 : Value) : ∃ wz, wz = (w.alloc (.cells #[a0, a1, a2] 31)).alloc (.cells #[b0, b1, b2] 31) ∧ Hid (Pure w wz) ∧ Hid (∀ W, Pure wz W → (W.cell? ⟨w.heap.size, 0, none⟩ = some a0 ∧ W.cell? ⟨w.heap.size, 1, none⟩ = some a1 ∧ W.cell? ⟨w.heap.size, 2, none⟩ = some a2 ∧ W.cell? ⟨w.heap.size + 1, 0, none⟩ = some b0 ∧ W.cell? ⟨w.heap.size + 1, 1, none⟩ = some b1 ∧ W.cell? ⟨w.heap.size + 1, 2, none⟩ = some b2 ∧ Pure wz W)) := by
  refine ⟨_, rfl, ((Below.refl _ _).alloc (Nat.le_refl _) _).alloc (by simp) _, fun W hW => ?_⟩
  have n1 := block_alloc_new (w.alloc (.cells #[a0, a1, a2] 31)) (.cells #[b0, b1, b2] 31)
  have n0 := block_alloc_old (block_alloc_new w (.cells #[a0, a1, a2] 31)) (.cells #[b0, b1, b2] 31)
  rw [World.size_alloc] at n1
  have e0 := (hW.block _ (lt_of_block n0)).trans n0
  have e1 := (hW.block _ (lt_of_block n1)).trans n1
  exact ⟨cell_of_block e0 0, cell_of_block e0 1, cell_of_block e0 2, cell_of_block e1 0, cell_of_block e1 1, cell_of_block e1 2, hW⟩
/-- Numbers that were handed back, in memory of the call's own. -/
def IntsO (w : World) (l : List Int) (e : Ending) (w' : World) : Prop := ∃ v', e = .returned v' ∧ w'.ownsRow w.heap.size 3 1 v' l.length (l.map (Value.int .i64)) ∧ Pure w w'
section
variable {v0 v1 v2 u0 u1 u2 : Value} {g h : Bag} {U V : List Dot} {W : World}
theorem partG (x : Int) (hr : BR3 v0 v1 v2 g W) (hg : BOk U g) (hU : U.length ≤ 400) : Calls Tryz.prog 13 #[.agg #[v0, v1, v2], .int .i64 x] W (BagO W (bpart g x)) :=
  spart_any v0 v1 v2 g x W hr (by have := hg.len; omega) (by have := hg.sml.l0; omega) (by have := hg.sml.l1; omega)
theorem rpartG (x : Int) (hr : BR3 v0 v1 v2 g W) (hg : BOk U g) (hU : U.length ≤ 400) : Calls Tryz.prog 21 #[.agg #[v0, v1, v2], .int .i64 x] W (BagO W (bpart g x)) :=
  rpart6_any v0 v1 v2 g x W hr (by have := hg.len; omega) (by have := hg.sml.l0; omega) (by have := hg.sml.l1; omega)
theorem sameG (hr : BR3 v0 v1 v2 g W) (hs : BR3 u0 u1 u2 h W) : Calls Tryz.prog 34 #[.agg #[v0, v1, v2], .agg #[u0, u1, u2]] W fun e w' => e = .returned (.bool (decide (g = h))) ∧ Pure W w' := mbsame_any _ _ g h W hr.at hs.at
theorem rsameG (hr : BR3 v0 v1 v2 g W) (hs : BR3 u0 u1 u2 h W) : Calls Tryz.prog 12 #[.agg #[v0, v1, v2], .agg #[u0, u1, u2]] W fun e w' => e = .returned (.bool (decide (g = h))) ∧ Pure W w' := rbsame_any _ _ g h W hr.at hs.at
theorem cnodesG {X : List Dot × List Dot} {m : Nat} (h0 : Dots W v0 X.1) (h1 : Dots W v1 X.2) (sx : Sml m X) (hm : m ≤ 100000) : Calls Tryz.prog 32 #[.agg #[v0, v1]] W (IntsO W (cnodes X.1 X.2)) :=
  nodes_any v0 v1 X.1 X.2 W h0 h1 (Nat.le_trans sx.l0 hm) (Nat.le_trans sx.l1 hm) (fun d hd => by rcases List.mem_append.1 hd with hd | hd; exact sx.j.wb d hd; exact sx.j.wc d hd)
end

set_option maxHeartbeats 1000000 in
theorem snodes_any (v0 v1 v2 : Value) (g : Bag) (U : List Dot) (w : World) (hr : BR3 v0 v1 v2 g w) (hg : BOk U g) (hU : U.length ≤ 400) :
    Calls Tryz.prog 22 #[.agg #[v0, v1, v2]] w (IntsO w (cnodes g.2.1 g.2.2)) := by
  obtain ⟨wz, hwz, Hpz, hS⟩ := bbox1 w v0 v1 v2
  have Hc := hid (cnodesG (X := g.2) (Row.pure hr.2.1 Hpz.out) (Row.pure hr.2.2 Hpz.out) hg.sml (show U.length ≤ 100000 by omega))
  unfold IntsO at *
  obtain ⟨f0, f1, f2, _⟩ := hS.out wz (Below.refl _ _)
  rw [hwz] at f0 f1 f2
  have hs := hid Hpz.out.size
  go_enter Tryz.func22, Tryz.ntmps22
  go_wp2_with fail
  rw [← hwz]
  clear hwz f0 f1 f2
  refine Hc.out.mono ?_
  rintro e w1 ⟨v', rfl, hown, hp1⟩
  have Hown := hid (own_mono hown hs.out)
  have Hp1 := hid (Hpz.out.then_ hp1)
  clear hown hp1
  go_wp2
  go_ret
  exact ⟨_, rfl, Hown.out, Hp1.out⟩
theorem ifilt_take (p : Int → Bool) (l : List Int) (k : Nat) (h : k < l.length) : (l.take (k + 1)).filter p = (l.take k).filter p ++ if p (l.getD k 0) then [l.getD k 0] else [] := by
  rw [take_succ_get l k h, List.filter_append]; simp [List.filter_cons]

set_option maxRecDepth 8000 in
set_option maxHeartbeats 4000000 in
theorem sdiffer_any (v0 v1 v2 u0 u1 u2 : Value) (g h : Bag) (U : List Dot) (w : World) (hr : BR3 v0 v1 v2 g w) (hs : BR3 u0 u1 u2 h w) (hg : BOk U g) (hh : BOk U h) (hU : U.length ≤ 100) :
    Calls Tryz.prog 11 #[.agg #[v0, v1, v2], .agg #[u0, u1, u2]] w (IntsO w (bdiffer g h)) := by
  obtain ⟨wz, hwz, Hpz, hS⟩ := bbox2 w v0 v1 v2 u0 u1 u2
  have HA := hid (fun W (hW : Pure wz W) => hr.pure (Hpz.out.then_ hW))
  have HB := hid (fun W (hW : Pure wz W) => hs.pure (Hpz.out.then_ hW))
  have Hj := hid (joinB (X := g.2) (Y := h.2) ⟨(HA.out wz (Below.refl _ _)).2.1, (HA.out wz (Below.refl _ _)).2.2⟩ ⟨(HB.out wz (Below.refl _ _)).2.1, (HB.out wz (Below.refl _ _)).2.2⟩ hg.sml hh.sml (by omega))
  have SJ := hid (hg.sml.jn hh.sml)
  have hpa := hid (fun W (hW : Pure wz W) x => partG x (HA.out W hW) hg (by omega))
  have hpb := hid (fun W (hW : Pure wz W) x => partG x (HB.out W hW) hh (by omega))
  have hdf := hid (show bdiffer g h = (cnodes (Jn g.2 h.2).1 (Jn g.2 h.2).2).filter (fun x => !decide (bpart g x = bpart h x)) from rfl)
  have hnl := hid (show (cnodes (Jn g.2 h.2).1 (Jn g.2 h.2).2).length ≤ 10000 from by
    have := cnodes_len' (Jn g.2 h.2).1 (Jn g.2 h.2).2
    have := SJ.out.l0; have := SJ.out.l1; omega)
  unfold CtxO at Hj
  clear hr hs hg hh
  have Hsz := hid Hpz.out.size
  go_enter Tryz.func11, Tryz.ntmps11
  go_wp2_with fail
  rw [← hwz]
  clear hwz
  obtain ⟨f0, f1, f2, f3, f4, f5, _⟩ := hS.out wz (Below.refl _ _)
  go_step3
  go_wp2_with fail
  go_step3
  go_wp2_with fail
  clear f0 f1 f2 f3 f4 f5
  refine Hj.out.mono ?_
  rintro e w1 ⟨j0, j1, rfl, hj, hp1⟩
  have Hn := hid (cnodesG hj.1 hj.2 SJ.out (by omega))
  have Hp1 := hid hp1
  unfold IntsO at Hn
  clear hp1 hj Hj SJ
  generalize cnodes (Jn g.2 h.2).1 (Jn g.2 h.2).2 = N at *
  go_wp2_with fail
  refine Hn.out.mono ?_
  rintro e w2 ⟨v2', rfl, hown2, hp2⟩
  obtain ⟨a2, c2, rfl⟩ := own_shape_d hown2
  have Hp2 := hid (Hp1.out.then_ hp2)
  have HN := hid (show Ints w2 (.slice a2 N.length c2) N from Row.of_own hown2)
  have Hs2 := hid (show w.heap.size ≤ w2.heap.size from Nat.le_trans Hsz.out Hp2.out.size)
  have hnl' := hnl.out
  clear hown2 hp2 Hn Hp1
  go_wp2
  go_loopw [5, 15] (fun v i wr => ∃ k : Nat, k ≤ N.length ∧ i = .int .i64 k ∧ wr.ownsRow w2.heap.size 3 1 v ((N.take k).filter (fun x => !decide (bpart g x = bpart h x))).length (((N.take k).filter (fun x => !decide (bpart g x = bpart h x))).map (Value.int .i64)) ∧ Pure w2 wr) (fun _ i _ => N.length - (RowKit.intOf i).toNat)
  case atStart => exact ⟨0, Nat.zero_le _, rfl, World.ownsRow_nil _ _ _ _, Below.refl _ _⟩
  case round =>
    obtain ⟨k, hk, rfl, hown, hp⟩ := hrel
    by_cases hlt : k < N.length
    · have hlt' : (k : Int) < (N.length : Int) := by omega
      obtain ⟨bn, on, rfl, hbn, hx⟩ := ints_get_j (Row.pure HN.out hp : Ints wr _ N) hlt
      have Hstep := hid (show (N.take (k + 1)).filter (fun x => !decide (bpart g x = bpart h x)) = (N.take k).filter (fun x => !decide (bpart g x = bpart h x)) ++ (if (!decide (bpart g (N.getD k 0) = bpart h (N.getD k 0))) = true then [N.getD k 0] else []) from ifilt_take _ N k hlt)
      have hYl : ((N.take k).filter (fun x => !decide (bpart g x = bpart h x))).length ≤ k := Nat.le_trans (List.length_filter_le _ _) (by rw [List.length_take]; omega)
      generalize (N.take k).filter (fun x => !decide (bpart g x = bpart h x)) = Y at *
      generalize N.getD k 0 = x at *
      have Hp := hid hp
      have Hown := hid (fun W (hW : Pure wr W) => own_pure hown hW)
      obtain ⟨a3, c3, rfl⟩ := own_shape_d hown
      have hSx : Hid (∀ W, Pure wr W → (W.cell? ⟨w.heap.size, 0, none⟩ = some v0 ∧ W.cell? ⟨w.heap.size, 1, none⟩ = some v1 ∧ W.cell? ⟨w.heap.size, 2, none⟩ = some v2 ∧ W.cell? ⟨w.heap.size + 1, 0, none⟩ = some u0 ∧ W.cell? ⟨w.heap.size + 1, 1, none⟩ = some u1 ∧ W.cell? ⟨w.heap.size + 1, 2, none⟩ = some u2 ∧ Pure wr W)) := fun W hW => by
        obtain ⟨e0, e1, e2, e3, e4, e5, _⟩ := hS.out W (Hp2.out.then_ (Hp.out.then_ hW))
        exact ⟨e0, e1, e2, e3, e4, e5, hW⟩
      have hS2 : Hid (∀ W : World, (W.cell? ⟨w.heap.size, 0, none⟩ = some v0 ∧ W.cell? ⟨w.heap.size, 1, none⟩ = some v1 ∧ W.cell? ⟨w.heap.size, 2, none⟩ = some v2 ∧ W.cell? ⟨w.heap.size + 1, 0, none⟩ = some u0 ∧ W.cell? ⟨w.heap.size + 1, 1, none⟩ = some u1 ∧ W.cell? ⟨w.heap.size + 1, 2, none⟩ = some u2 ∧ Pure wr W) → Pure wr W) := fun W h => h.2.2.2.2.2.2
      have hst := hid (hSx.out wr.drew (Below.refl _ _).drew)
      have qa := hid (fun W (hW : Pure wr W) => hpa.out W (Hp2.out.then_ (Hp.out.then_ hW)) x)
      have qb := hid (fun W (hW : Pure wr W) => hpb.out W (Hp2.out.then_ (Hp.out.then_ hW)) x)
      generalize hGa : bpart g x = Ga at *
      generalize hGb : bpart h x = Gb at *
      clear hGa hGb
      have qs := hid (fun W a0 a1 a2 b0 b1 b2 (ha : BR3 a0 a1 a2 Ga W) (hb : BR3 b0 b1 b2 Gb W) => sameG ha hb)
      unfold BagO at qa qb
      clear hown hp hbn
      go_wp2_with fail
      go_region_held3 (fun W => W.cell? ⟨w.heap.size, 0, none⟩ = some v0 ∧ W.cell? ⟨w.heap.size, 1, none⟩ = some v1 ∧ W.cell? ⟨w.heap.size, 2, none⟩ = some v2 ∧ W.cell? ⟨w.heap.size + 1, 0, none⟩ = some u0 ∧ W.cell? ⟨w.heap.size + 1, 1, none⟩ = some u1 ∧ W.cell? ⟨w.heap.size + 1, 2, none⟩ = some u2 ∧ Pure wr W)
        (first | with_reducible exact hst.out | with_reducible exact hSx.out _ (Pure.then_ (hS2.out _ (by assumption)) (by assumption)))
        ((first
          | (go_at_call 13; (with_reducible refine (qa.out _ (hS2.out _ (by assumption))).mono ?_); rintro e w7 ⟨x0, x1, x2, rfl, h7, hp7, _⟩)
          | (go_at_call 13; (with_reducible refine (qb.out _ (hS2.out _ (by assumption))).mono ?_); rintro e w8 ⟨y0, y1, y2, rfl, h8, hp8, _⟩)
          | (go_at_call 34; (first | (refine (qs.out _ _ _ _ _ _ _ (h7.pure hp8) h8).mono ?_) | (refine (qs.out _ _ _ _ _ _ _ h7 (h8.pure hp7)).mono ?_)); rintro e w9 ⟨rfl, hp9⟩)))
      have H9 := hid (hS2.out w9 (by assumption))
      generalize decide (Ga = Gb) = D at *
      clear h7 hp7 h8 hp8 hp9 hst hSx hS2 qa qb qs
      have hk9 := H9.out.size
      have hk2 := Hp.out.size
      cases D with
      | true =>
        have hst2 := hid (show (N.take (k + 1)).filter (fun x => !decide (bpart g x = bpart h x)) = Y from by rw [Hstep.out]; simp)
        go_wp2
        go_roundw
        case rel => exact ⟨k + 1, by omega, by go_num, by rw [hst2.out]; exact Hown.out w9 H9.out, Hp.out.then_ H9.out⟩
        case measure => simp [RowKit.intOf]; omega
      | false =>
        have hst2 := hid (show (N.take (k + 1)).filter (fun x => !decide (bpart g x = bpart h x)) = Y ++ [x] from by rw [Hstep.out]; simp)
        have b4 : w2.heap.size ≤ (w9.alloc (.cells #[.int .i64 x] 3)).heap.size := by simp; omega
        go_wp2_with (at_builtin; refine wpList_append_ints1 rfl _ _ rfl w2.heap.size _ Y Y.length rfl ((Hown.out w9 H9.out).alloc _) _ [x] 1 rfl (ints_lit1 w9 x) (by omega) b4 ?_)
        intro v3 w3 hown3 hg3
        have Hown3 := hid hown3
        have hpn := hid (((Hp.out.then_ H9.out).alloc (by omega) _).grown hg3 (by simp; omega) (fun k hk => ((Hown.out w9 H9.out).lt k hk).1))
        clear hown3 hg3
        go_wp2
        go_roundw
        case rel => exact ⟨k + 1, by omega, by go_num, by rw [hst2.out]; simpa using Hown3.out, hpn.out⟩
        case measure => simp [RowKit.intOf]; omega
    · have hlt' : ¬ (k : Int) < (N.length : Int) := by omega
      rw [List.take_of_length_le (by omega), ← hdf.out] at hown
      have Hown := hid (own_mono hown Hs2.out)
      have Hp := hid ((Hpz.out.then_ Hp2.out).then_ hp)
      clear hown hp
      go_wp2
      go_ret
      exact ⟨_, rfl, Hown.out, Hp.out⟩
end Go.Proofs.YtcjggofcmjpfnaaGreat

namespace Go.Proofs.YtcjggofcmjpfnaaGreat
open Go.RowKit Go.Maps Go.Shelf Go.Sort

/-- Rows of texts. -/
def svs (l : List (List UInt8)) : List Value := l.map fun s => .string (bs s)
def Strs (w : World) (v : Value) (l : List (List UInt8)) : Prop := Row w v l.length 1 (svs l)
theorem Strs.shape {w : World} {v : Value} {l : List (List UInt8)} (h : Strs w v l) : ∃ a cap, v = .slice a l.length cap := Row.shape h
theorem Strs.get {w : World} {a : Option Addr} {n cap : Nat} {l : List (List UInt8)} (h : Strs w (.slice a n cap) l) {k : Nat} (hk : k < l.length) :
    ∃ b off, a = some ⟨b, off, none⟩ ∧ b < w.heap.size ∧ w.cell? ⟨b, off + k, none⟩ = some (.string (bs (l.getD k []))) := by
  have e : n = l.length := by obtain ⟨a', c', e⟩ := h.shape; injection e
  subst e
  obtain ⟨b, off, e, hb, hc⟩ := Row.elem h hk
  refine ⟨b, off, e, hb, ?_⟩
  have := hc 0 (by omega)
  simp only [Nat.mul_one, Nat.add_zero] at this
  rw [this]
  simp [svs, List.getD, hk]
theorem take_succ_s (l : List (List UInt8)) (k : Nat) (h : k < l.length) : l.take (k + 1) = l.take k ++ [l.getD k []] := by
  rw [List.take_succ_eq_append_getElem h]; simp [List.getD, h]
def StrsO (w : World) (l : List (List UInt8)) (e : Ending) (w' : World) : Prop := ∃ v', e = .returned v' ∧ w'.ownsRow w.heap.size 9 1 v' l.length (svs l) ∧ Pure w w'
theorem svs_append (l k : List (List UInt8)) : svs (l ++ k) = svs l ++ svs k := by simp [svs]
theorem svs_one (l : List (List UInt8)) : ∀ u ∈ svs l, u.oneCell' = true := by
  intro u hu
  simp only [svs, List.mem_map] at hu
  obtain ⟨s, _, rfl⟩ := hu
  rfl
theorem infoStr : (Tryz.prog.info? 9).map (fun i => (i.zero, i.size, i.bytes)) = some (some (.string ⟨#[]⟩), 1, 16) := by kernel_rfl
theorem wpList_append_strs {ops : Array Oper} {rest : List Oper} {o : Oper} {a : Act} {Q : Exit → Act → World → Prop} {w : World} (hgd : o.guard = none) (s x : Operand)
    (ho : o.op = .call { callee := .builtin .append, args := #[s, x], argTypes := #[38, 38] }) (base : Nat) (v : Value) (xs : List (List UInt8)) (n : Nat) (hs : a.eval s = v)
    (hown : w.ownsRow base 9 1 v n (svs xs)) (u : Value) (k : List (List UInt8)) (m : Nat) (hx : a.eval x = u) (hu : Row w u m 1 (svs k)) (hlen : n + m ≤ 1000000) (hbase : base ≤ w.heap.size)
    (h : ∀ v' w', w'.ownsRow base 9 1 v' (n + m) (svs (xs ++ k)) → w.grownBy w' v.ownBlock → wpList Tryz.prog ops Q rest (a.put o.dst v') w') : wpList Tryz.prog ops Q (o :: rest) a w := by
  obtain ⟨i0, hi, hz0, hz1, hz2⟩ := info_parts infoStr
  exact wpList_append_rows hgd s x _ ho base 9 i0 _ 1 16 Tryz.underlying38 hi hz0 hz1 hz2 rfl (by decide) (by decide) v n _ hs hown u m _ hx hu (svs_one k) hlen hbase (fun v' w' q1 q2 => h v' w' (by rw [svs_append]; exact q1) q2)
theorem strs_lit (w : World) (s : List UInt8) : Row (w.alloc (.cells #[.string (bs s)] 9)) (.slice (some ⟨w.heap.size, 0, none⟩) 1 1) 1 1 (svs [s]) := by
  refine ⟨rfl, _, _, rfl, Nat.le_refl _, by unfold maxLen; omega, .inr ⟨_, _, rfl, by simp, fun i hi => ?_⟩⟩
  rw [Nat.zero_add, World.cell?_alloc_new]
  simp [svs]

theorem map_take {α : Type} (f : Int → α) (l : List Int) (k : Nat) (h : k < l.length) : (l.take (k + 1)).map f = (l.take k).map f ++ [f (l.getD k 0)] := by
  rw [take_succ_get l k h]; simp
set_option maxHeartbeats 1000000 in
theorem smark_any (v0 v1 v2 : Value) (g : Bag) (x : Int) (U : List Dot) (w : World) (hr : BR3 v0 v1 v2 g w) (hg : BOk U g) (hU : U.length ≤ 400) :
    Calls Tryz.prog 41 #[.agg #[v0, v1, v2], .int .i64 x] w fun e w' => e = .returned (.string (bs (bmark g x))) ∧ Pure w w' := by
  obtain ⟨wz, hwz, Hpz, hS⟩ := bbox1 w v0 v1 v2
  have Hc := hid (partG x (hr.pure Hpz.out) hg hU)
  have Hb := hid (fun W u0 u1 u2 (hu : BR3 u0 u1 u2 (bpart g x) W) => mbbytes_any _ (bpart g x) W hu.at ((hg.part x).small (by omega)))
  have hbm := hid (show bmark g x = bagB (bpart g x) from rfl)
  unfold BagO at Hc
  generalize bagB (bpart g x) = M at *
  generalize bpart g x = P at *
  obtain ⟨f0, f1, f2, _⟩ := hS.out wz (Below.refl _ _)
  rw [hwz] at f0 f1 f2
  clear hr hg
  go_enter Tryz.func41, Tryz.ntmps41
  go_wp2_with fail
  rw [← hwz]
  clear hwz f0 f1 f2
  refine Hc.out.mono ?_
  rintro e w1 ⟨u0, u1, u2, rfl, h1, hp1, _⟩
  have Hp1 := hid (Hpz.out.then_ hp1)
  have Hb1 := hid (Hb.out w1 u0 u1 u2 h1)
  clear h1 hp1
  go_wp2_with fail
  refine Hb1.out.mono ?_
  rintro e w2 ⟨rfl, hp2⟩
  have Hp2 := hid (Hp1.out.then_ hp2)
  clear hp2
  go_wp2
  go_ret
  exact ⟨by rw [hbm.out]; rfl, Hp2.out⟩

set_option maxRecDepth 8000 in
set_option maxHeartbeats 4000000 in
theorem smarks_any (v0 v1 v2 : Value) (g : Bag) (U : List Dot) (w : World) (hr : BR3 v0 v1 v2 g w) (hg : BOk U g) (hU : U.length ≤ 400) :
    Calls Tryz.prog 16 #[.agg #[v0, v1, v2]] w (StrsO w (bmarks g)) := by
  obtain ⟨wz, hwz, Hpz, hS⟩ := bbox1 w v0 v1 v2
  have HA := hid (fun W (hW : Pure wz W) => hr.pure (Hpz.out.then_ hW))
  have Hn := hid (snodes_any v0 v1 v2 g U wz (HA.out wz (Below.refl _ _)) hg hU)
  have hmk := hid (fun W (hW : Pure wz W) x => smark_any v0 v1 v2 g x U W (HA.out W hW) hg hU)
  have hdf := hid (show bmarks g = (cnodes g.2.1 g.2.2).map (bmark g) from rfl)
  have hnl := hid (show (cnodes g.2.1 g.2.2).length ≤ 10000 from by
    have := cnodes_len' g.2.1 g.2.2
    have := hg.sml.l0; have := hg.sml.l1; omega)
  unfold IntsO at Hn
  generalize cnodes g.2.1 g.2.2 = N at *
  clear hr hg
  obtain ⟨f0, f1, f2, _⟩ := hS.out wz (Below.refl _ _)
  rw [hwz] at f0 f1 f2
  have Hsz := hid Hpz.out.size
  go_enter Tryz.func16, Tryz.ntmps16
  go_wp2_with fail
  rw [← hwz]
  clear hwz f0 f1 f2
  refine Hn.out.mono ?_
  rintro e w2 ⟨v2', rfl, hown2, hp2⟩
  obtain ⟨a2, c2, rfl⟩ := own_shape_d hown2
  have Hp2 := hid hp2
  have HN := hid (show Ints w2 (.slice a2 N.length c2) N from Row.of_own hown2)
  have Hs2 := hid (show w.heap.size ≤ w2.heap.size from Nat.le_trans Hsz.out Hp2.out.size)
  have hnl' := hnl.out
  clear hown2 hp2 Hn
  go_wp2
  go_loopw [3, 9] (fun v i wr => ∃ k : Nat, k ≤ N.length ∧ i = .int .i64 k ∧ wr.ownsRow w2.heap.size 9 1 v ((N.take k).map (bmark g)).length (svs ((N.take k).map (bmark g))) ∧ Pure w2 wr) (fun _ i _ => N.length - (RowKit.intOf i).toNat)
  case atStart => exact ⟨0, Nat.zero_le _, rfl, World.ownsRow_nil _ _ _ _, Below.refl _ _⟩
  case round =>
    obtain ⟨k, hk, rfl, hown, hp⟩ := hrel
    by_cases hlt : k < N.length
    · have hlt' : (k : Int) < (N.length : Int) := by omega
      obtain ⟨bn, on, rfl, hbn, hx⟩ := ints_get_j (Row.pure HN.out hp : Ints wr _ N) hlt
      have Hstep := hid (map_take (bmark g) N k hlt)
      have hYl : ((N.take k).map (bmark g)).length ≤ k := by rw [List.length_map, List.length_take]; omega
      generalize (N.take k).map (bmark g) = Y at *
      generalize N.getD k 0 = x at *
      have Hp := hid hp
      have Hown := hid (fun W (hW : Pure wr W) => own_pure hown hW)
      obtain ⟨a3, c3, rfl⟩ := own_shape_d hown
      have qa := hid (hmk.out wr (Hp2.out.then_ hp) x)
      generalize bmark g x = M at *
      obtain ⟨f0, f1, f2, _⟩ := hS.out wr (Hp2.out.then_ hp)
      clear hown hp hbn
      go_wp2_with fail
      refine qa.out.mono ?_
      rintro e w9 ⟨rfl, hp9⟩
      have H9 := hid hp9
      have hk9 := hp9.size
      have hk2 := Hp.out.size
      clear hp9 f0 f1 f2 qa
      have b4 : w2.heap.size ≤ (w9.alloc (.cells #[.string (bs M)] 9)).heap.size := by simp; omega
      go_wp2_with (at_builtin; refine wpList_append_strs rfl _ _ rfl w2.heap.size _ Y Y.length rfl ((Hown.out w9 H9.out).alloc _) _ [M] 1 rfl (strs_lit w9 M) (by omega) b4 ?_)
      intro v3 w3 hown3 hg3
      have Hown3 := hid hown3
      have hpn := hid (((Hp.out.then_ H9.out).alloc (by omega) _).grown hg3 (by simp; omega) (fun k hk => ((Hown.out w9 H9.out).lt k hk).1))
      clear hown3 hg3
      go_wp2
      go_roundw
      case rel => exact ⟨k + 1, by omega, by go_num, by rw [Hstep.out]; simpa using Hown3.out, hpn.out⟩
      case measure => simp [RowKit.intOf]; omega
    · have hlt' : ¬ (k : Int) < (N.length : Int) := by omega
      rw [List.take_of_length_le (by omega), ← hdf.out] at hown
      have Hown := hid (own_mono hown Hs2.out)
      have Hp := hid ((Hpz.out.then_ Hp2.out).then_ hp)
      clear hown hp
      go_wp2
      go_ret
      exact ⟨_, rfl, Hown.out, Hp.out⟩
end Go.Proofs.YtcjggofcmjpfnaaGreat

namespace Go.Proofs.YtcjggofcmjpfnaaGreat
open Go.RowKit Go.Maps Go.Shelf Go.Sort

def am : Msg := ((1, 1), [113], [], 0)
def ag : Bag := ([am], [(1, 1)], [])
theorem ag_put : bput ([], [], []) am = ag := by decide
theorem ag_ok : BOk [(1, 1)] ag := by rw [← ag_put]; exact (BOk.nil _).put (by decide) (by decide) (by decide)
theorem ag_part : bpart ag 1 = ag := by decide
theorem ag_nodes : cnodes ag.2.1 ag.2.2 = [1] := by decide
theorem ag_marks : bmarks ag = [bagB ag] := by
  unfold bmarks; rw [ag_nodes]
  show [bmark ag 1] = _
  unfold bmark; rw [ag_part]
theorem ag_differ : bdiffer ag ag = [] := List.eq_nil_of_length_eq_zero (by have := bdiffer_nil ag_ok ag_ok; simpa using this)
theorem nil_marks : bmarks ([], [], []) = [] := by decide

set_option maxRecDepth 8000 in
set_option maxHeartbeats 4000000 in
theorem awake_any (w : World) : Calls Tryz.prog 9 #[] w fun e w' => e = .returned (.bool true) ∧ Pure w w' := by
  have hq : (⟨#[113]⟩ : ByteArray) = bs [113] := rfl
  have he : (⟨#[]⟩ : ByteArray) = bs [] := rfl
  obtain ⟨wa, hwa⟩ : ∃ wa, wa = w.alloc (.cells #[.int .i64 1, .int .i64 1, .string (bs [113]), .string (bs []), .int .i64 0] 57) := ⟨_, rfl⟩
  have hpa : Pure w wa := by rw [hwa]; exact (Below.refl _ _).alloc (Nat.le_refl _) _
  have hsa : wa.heap.size = w.heap.size + 1 := by rw [hwa]; simp
  obtain ⟨wb, hwb⟩ : ∃ wb, wb = wa.alloc (.cells #[.int .i64 1, .int .i64 1, .string (bs [113]), .string (bs []), .int .i64 0] 57) := ⟨_, rfl⟩
  have hpb : Pure wa wb := by rw [hwb]; exact (Below.refl _ _).alloc (Nat.le_refl _) _
  have hsb : wb.heap.size = w.heap.size + 1 + 1 := by rw [hwb]; simp; omega
  have hm : Msgs wb (.slice (some ⟨w.heap.size + 1, 0, none⟩) 1 1) [am] := by rw [hwb, ← hsa]; exact msgs_lit wa am
  obtain ⟨wc, hwc⟩ : ∃ wc, wc = wb.alloc (.cells #[.int .i64 1, .int .i64 1] 55) := ⟨_, rfl⟩
  have hpc : Pure wb wc := by rw [hwc]; exact (Below.refl _ _).alloc (Nat.le_refl _) _
  have hsc : wc.heap.size = w.heap.size + 1 + 1 + 1 := by rw [hwc]; simp; omega
  have hd : Dots wc (.slice (some ⟨w.heap.size + 1 + 1, 0, none⟩) 1 1) [(1, 1)] := by rw [hwc, ← hsb]; exact dots_lit wb 1 1
  have hr : BR3 (.slice (some ⟨w.heap.size + 1, 0, none⟩) 1 1) (.slice (some ⟨w.heap.size + 1 + 1, 0, none⟩) 1 1) (.slice none 0 0) ag wc := ⟨Row.pure hm hpc, hd, Row.nil _ _⟩
  have hX0 := BX.made hr
  rw [hsc] at hX0
  obtain ⟨wd, hwd⟩ : ∃ wd, wd = wc.alloc (.cells #[.slice (some ⟨w.heap.size + 1, 0, none⟩) 1 1, .slice (some ⟨w.heap.size + 1 + 1, 0, none⟩) 1 1, .slice none 0 0] 31) := ⟨_, rfl⟩
  rw [← hwd] at hX0
  have hpd : Pure wc wd := by rw [hwd]; exact (Below.refl _ _).alloc (Nat.le_refl _) _
  have HX := hid hX0
  have Hpd := hid (hpa.then_ (hpb.then_ (hpc.then_ hpd)))
  have hpt := hid (show Calls _ _ _ _ (BagO wd ag) from by have := partG 1 hX0.r ag_ok (by decide); rw [ag_part] at this; exact this)
  rw [hwc, hwb, hwa] at hwd
  clear hpa hsa hpb hsb hm hpc hsc hd hr hX0 hpd hwa hwb hwc wa wb wc
  unfold BagO at hpt
  go_enter Tryz.func9, Tryz.ntmps9
  go_wp2_with fail
  rw [← hwd]
  clear hwd
  refine hpt.out.mono ?_
  rintro e w1 ⟨p0, p1, p2, rfl, hp, hp1, _⟩
  obtain ⟨x0, c0, rfl⟩ : ∃ a c, p0 = .slice a 1 c := hp.1.shape
  obtain ⟨x1, c1, rfl⟩ : ∃ a c, p1 = .slice a 1 c := hp.2.1.shape
  obtain ⟨x2, c2, rfl⟩ : ∃ a c, p2 = .slice a 0 c := hp.2.2.shape
  obtain ⟨w2, hw2⟩ : ∃ w2, w2 = w1.alloc (.cells #[.slice x0 1 c0, .slice x1 1 c1, .slice x2 0 c2] 31) := ⟨_, rfl⟩
  have hp2 : Pure w1 w2 := by rw [hw2]; exact (Below.refl _ _).alloc (Nat.le_refl _) _
  have Hpb := hid (show w2.heap[w1.heap.size]? = some (.cells #[.slice x0 1 c0, .slice x1 1 c1, .slice x2 0 c2] 31 (0, 0)) from by rw [hw2]; exact block_alloc_new _ _)
  have HX2 := hid (HX.out.pure (hp1.then_ hp2))
  have Hp2 := hid (Hpd.out.then_ (hp1.then_ hp2))
  obtain ⟨g0, g1, g2⟩ := HX2.out.cells
  rw [hw2] at g0 g1 g2
  have Hmk := hid (show Calls _ _ _ _ (StrsO w2 [bagB ag]) from by have := smarks_any _ _ _ ag _ w2 HX2.out.r ag_ok (by decide); rw [ag_marks] at this; exact this)
  unfold StrsO at Hmk
  clear hp hp1 hp2 hpt
  go_wp2_with fail
  rw [← hw2]
  clear hw2 g0 g1 g2
  refine Hmk.out.mono ?_
  rintro e w3 ⟨m0', rfl, hown, hp3⟩
  obtain ⟨ms, mc, rfl⟩ := own_shape_d hown
  have Hown := hid (show w3.ownsRow w2.heap.size 9 1 (.slice ms 1 mc) 1 (svs [bagB ag]) from hown)
  obtain ⟨ab, aoff, rfl, hac⟩ : ∃ b off, ms = some ⟨b, off, none⟩ ∧ w3.cell? ⟨b, off, none⟩ = some (.string (bs (bagB ag))) := by
    obtain ⟨b, off, e, _, h⟩ := Row.elem (Row.of_own Hown.out : Row w3 (.slice ms 1 mc) 1 1 (svs [bagB ag])) (i := 0) (by decide)
    exact ⟨b, off, e, by have := h 0 (by decide); simpa [svs] using this⟩
  have hmc : (1 : Int) ≤ mc := by
    obtain ⟨_, a', c', e, q1, _⟩ := Row.of_own Hown.out
    cases e; omega
  have Hac := hid (And.intro (World.block_lt_of_cell? w3 _ hac) hac)
  have H3 := hid hp3
  have Hpw := hid (fun W (hW : Pure w3 W) => Hp2.out.then_ (hp3.then_ hW))
  have HX3 := hid (fun W (hW : Pure w3 W) => HX2.out.pure (hp3.then_ hW))
  have hPc := hid (fun W (hW : Pure w3 W) => (show W.cell? ⟨w1.heap.size, 0, none⟩ = some (.slice x0 1 c0) from by
    have hq := hp3.then_ hW
    exact cell_of_block ((hq.block _ (lt_of_block Hpb.out)).trans Hpb.out) 0))
  generalize hnb : w1.heap.size = nb at *
  have hS : Hid (∀ W, Pure w3 W → (W.cell? ⟨w.heap.size + 1 + 1 + 1, 0, none⟩ = some (.slice (some ⟨w.heap.size + 1, 0, none⟩) 1 1) ∧ W.cell? ⟨w.heap.size + 1 + 1 + 1, 1, none⟩ = some (.slice (some ⟨w.heap.size + 1 + 1, 0, none⟩) 1 1) ∧ W.cell? ⟨w.heap.size + 1 + 1 + 1, 2, none⟩ = some (.slice none 0 0) ∧ W.cell? ⟨nb, 0, none⟩ = some (.slice x0 1 c0) ∧ W.cell? ⟨ab, aoff, none⟩ = some (.string (bs (bagB ag))) ∧ Pure w3 W)) := fun W hW => by
    obtain ⟨e0, e1, e2⟩ := (HX3.out W hW).cells
    exact ⟨e0, e1, e2, hPc.out W hW, (hW.cell (p := ⟨ab, aoff, none⟩) Hac.out.1).trans Hac.out.2, hW⟩
  have hS2 : Hid (∀ W : World, (W.cell? ⟨w.heap.size + 1 + 1 + 1, 0, none⟩ = some (.slice (some ⟨w.heap.size + 1, 0, none⟩) 1 1) ∧ W.cell? ⟨w.heap.size + 1 + 1 + 1, 1, none⟩ = some (.slice (some ⟨w.heap.size + 1 + 1, 0, none⟩) 1 1) ∧ W.cell? ⟨w.heap.size + 1 + 1 + 1, 2, none⟩ = some (.slice none 0 0) ∧ W.cell? ⟨nb, 0, none⟩ = some (.slice x0 1 c0) ∧ W.cell? ⟨ab, aoff, none⟩ = some (.string (bs (bagB ag))) ∧ Pure w3 W) → Pure w3 W) := fun W h => h.2.2.2.2.2
  have hst := hid (hS.out w3.drew (Below.refl _ _).drew)
  have q1 := hid (fun W (hW : Pure w3 W) => (show Calls _ _ _ _ (IntsO W []) from by have := sdiffer_any _ _ _ _ _ _ ag ag _ W (HX3.out W hW).r (HX3.out W hW).r ag_ok ag_ok (by decide); rw [ag_differ] at this; exact this))
  have q2 := hid (fun W => (show Calls _ _ _ _ (StrsO W []) from by have := smarks_any _ _ _ ([], [], []) [] W (BR3.nil W) (BOk.nil _) (by decide); rw [nil_marks] at this; exact this))
  have q3 := hid (fun W (hW : Pure w3 W) => rbbytes_any _ ag W (HX3.out W hW).r.at (ag_ok.small (by decide)))
  unfold IntsO at q1
  unfold StrsO at q2
  generalize bs (bagB ag) = BB at *
  clear hown hp3 hac Hown Hmk
  go_wp2_with fail
  go_region_held3 (fun W => W.cell? ⟨w.heap.size + 1 + 1 + 1, 0, none⟩ = some (.slice (some ⟨w.heap.size + 1, 0, none⟩) 1 1) ∧ W.cell? ⟨w.heap.size + 1 + 1 + 1, 1, none⟩ = some (.slice (some ⟨w.heap.size + 1 + 1, 0, none⟩) 1 1) ∧ W.cell? ⟨w.heap.size + 1 + 1 + 1, 2, none⟩ = some (.slice none 0 0) ∧ W.cell? ⟨nb, 0, none⟩ = some (.slice x0 1 c0) ∧ W.cell? ⟨ab, aoff, none⟩ = some (.string BB) ∧ Pure w3 W)
    (first | with_reducible exact hst.out | with_reducible exact hS.out _ (Pure.then_ (hS2.out _ (by assumption)) (by assumption)))
    ((first
      | (go_at_call 11; (with_reducible refine (q1.out _ (hS2.out _ (by assumption))).mono ?_); rintro e wi ⟨vi, rfl, hi, hpi⟩; obtain ⟨ai, ci, rfl⟩ := own_shape_d hi)
      | (go_at_call 16; (refine (q2.out _).mono ?_); rintro e wj ⟨vj, rfl, hj, hpj⟩; obtain ⟨aj, cj, rfl⟩ := own_shape_d hj)
      | (go_at_call 29; (with_reducible refine (q3.out _ (hS2.out _ (by assumption))).mono ?_); rintro e wk ⟨rfl, hpk⟩)))
  have HF := hid (Hpw.out wk (hS2.out wk (by assumption)))
  clear hi hpi hj hpj hpk hst hS hS2 q1 q2 q3
  go_wp2
  go_ret
  exact ⟨rfl, HF.out⟩
end Go.Proofs.YtcjggofcmjpfnaaGreat

namespace Go.Proofs.YtcjggofcmjpfnaaGreat
open Go.RowKit Go.Maps Go.Shelf Go.Sort

theorem and_le (n : Int) (k : Nat) (hk : k < 1000000) : 0 ≤ bits .and .i64 n k ∧ bits .and .i64 n k ≤ k := by
  show 0 ≤ IntKind.i64.wrap ((BitVec.ofInt 64 n &&& BitVec.ofInt 64 k).toNat : Int) ∧ IntKind.i64.wrap ((BitVec.ofInt 64 n &&& BitVec.ofInt 64 k).toNat : Int) ≤ k
  have hx : (BitVec.ofInt 64 n &&& BitVec.ofInt 64 k).toNat ≤ k := by
    rw [BitVec.toNat_and]
    refine Nat.le_trans Nat.and_le_right ?_
    rw [BitVec.toNat_ofInt]; omega
  rw [IntWalk.i64_in _ (by omega)]
  omega
def pname (d : Dot) : Dot := (1 + bits .and .i64 d.1 3, 1 + bits .and .i64 d.2 15)
def pmsg (m : Msg) : Msg := (pname m.1, [113], m.2.2.1.take 5, bits .and .i64 m.2.2.2 255)
def U64 : List Dot := (List.range 4).flatMap fun (a : Nat) => (List.range 16).map fun (b : Nat) => (1 + (a : Int), 1 + (b : Int))
theorem pname_mem (d : Dot) : pname d ∈ U64 := by
  have h1 : 0 ≤ bits .and .i64 d.1 3 ∧ bits .and .i64 d.1 3 ≤ 3 := and_le d.1 3 (by decide)
  have h2 : 0 ≤ bits .and .i64 d.2 15 ∧ bits .and .i64 d.2 15 ≤ 15 := and_le d.2 15 (by decide)
  unfold U64 pname
  rw [List.mem_flatMap]
  refine ⟨(bits .and .i64 d.1 3).toNat, List.mem_range.2 (by omega), List.mem_map.2 ⟨(bits .and .i64 d.2 15).toNat, List.mem_range.2 (by omega), ?_⟩⟩
  rw [Int.toNat_of_nonneg h1.1, Int.toNat_of_nonneg h2.1]
theorem U64_len : U64.length = 64 := by decide
theorem pname_chk (d : Dot) : dchk (pname d) = true := by
  have h1 : 0 ≤ bits .and .i64 d.1 3 ∧ bits .and .i64 d.1 3 ≤ 3 := and_le d.1 3 (by decide)
  have h2 : 0 ≤ bits .and .i64 d.2 15 ∧ bits .and .i64 d.2 15 ≤ 15 := and_le d.2 15 (by decide)
  rw [dchk_iff]; unfold dok pname; dsimp only; omega
theorem pmsg_may (m : Msg) : mmay (pmsg m) = true := by
  have h : 0 ≤ bits .and .i64 m.2.2.2 255 ∧ bits .and .i64 m.2.2.2 255 ≤ 255 := and_le m.2.2.2 255 (by decide)
  have hc := pname_chk m.1
  unfold mmay pmsg
  dsimp only
  rw [hc]
  have hl : (m.2.2.1.take 5).length ≤ 5 := by rw [List.length_take]; omega
  simp only [List.length_cons, List.length_nil, Bool.true_and, Bool.and_eq_true, decide_eq_true_eq]
  omega
def pput (g : Bag) (m : Msg) : Bag := if chas g.2.1 g.2.2 m.1 then g else bput g m
def pstep (g : Bag) (m : Msg) (b : Bool) : Bag := if b then bremove (pput g (pmsg m)) (pname m.1) else pput g (pmsg m)
def planK (M : List Msg) (G : List Bool) : Nat → Bag
  | 0 => ([], [], [])
  | k + 1 => pstep (planK M G k) (M.getD k m0) (G.getD k false)
def planB (M : List Msg) (G : List Bool) : Bag := planK M G (min M.length 12)
theorem pput_ok {g : Bag} (h : BOk U64 g) (m : Msg) : BOk U64 (pput g (pmsg m)) := by
  unfold pput
  split
  · exact h
  · rename_i hn
    exact h.put (pmsg_may m) (pname_mem m.1) (by simpa using hn)
theorem pstep_ok {g : Bag} (h : BOk U64 g) (m : Msg) (b : Bool) : BOk U64 (pstep g m b) := by
  unfold pstep
  split
  · exact (pput_ok h m).remove (pname_mem m.1)
  · exact pput_ok h m
theorem planK_ok (M : List Msg) (G : List Bool) : ∀ k, BOk U64 (planK M G k)
  | 0 => BOk.nil _
  | k + 1 => pstep_ok (planK_ok M G k) _ _
theorem planB_ok (M : List Msg) (G : List Bool) : BOk U64 (planB M G) := planK_ok M G _

set_option maxRecDepth 8000 in
set_option maxHeartbeats 4000000 in
theorem rput_seen (v0 v1 v2 : Value) (g : Bag) (m : Msg) (w : World) (hr : BR3 v0 v1 v2 g w) (hm : mmay m = true) (hn : chas g.2.1 g.2.2 m.1 = true) :
    Calls Tryz.prog 30 #[.agg #[v0, v1, v2], mv m] w (BagT w ([], [], []) 13) := by
  obtain ⟨L, B, C⟩ := g
  dsimp only at hn
  obtain ⟨h0, h1, h2⟩ := hr
  dsimp only at h0 h1 h2
  have hmay := hid (fun W => (show Calls _ _ _ _ _ from by have := rmay_any m W; rw [hm] at this; exact this))
  obtain ⟨⟨x, y⟩, q, b, c⟩ := m
  obtain ⟨wz, hwz⟩ : ∃ wz, wz = ((w.alloc (.cells #[v0, v1, v2] 31)).alloc (.cells #[.int .i64 x, .int .i64 y, .string (bs q), .string (bs b), .int .i64 c] 57)).alloc (.cells #[.slice none 0 0, .slice none 0 0, .slice none 0 0] 31) := ⟨_, rfl⟩
  have Hpz := hid (show Pure w wz from by rw [hwz]; exact (((Below.refl _ _).alloc (Nat.le_refl _) _).alloc (by simp) _).alloc (by simp; omega) _)
  have n1 := block_alloc_new (w.alloc (.cells #[v0, v1, v2] 31)) (.cells #[.int .i64 x, .int .i64 y, .string (bs q), .string (bs b), .int .i64 c] 57)
  have n2 := block_alloc_new ((w.alloc (.cells #[v0, v1, v2] 31)).alloc (.cells #[.int .i64 x, .int .i64 y, .string (bs q), .string (bs b), .int .i64 c] 57)) (.cells #[.slice none 0 0, .slice none 0 0, .slice none 0 0] 31)
  simp only [World.size_alloc] at n1 n2
  have hbk : Hid (wz.heap[w.heap.size]? = some (.cells #[v0, v1, v2] 31 (0, 0)) ∧ wz.heap[w.heap.size + 1]? = some (.cells #[.int .i64 x, .int .i64 y, .string (bs q), .string (bs b), .int .i64 c] 57 (0, 0)) ∧ RsB (w.heap.size + 1 + 1) wz) := by
    show _ ∧ _ ∧ wz.heap[w.heap.size + 1 + 1]? = _
    rw [hwz]
    exact ⟨block_alloc_old (block_alloc_old (block_alloc_new _ _) _) _, block_alloc_old n1 _, n2⟩
  clear n1 n2
  have hBox : Hid (∀ W, Pure wz W → (W.cell? ⟨w.heap.size, 1, none⟩ = some v1 ∧ W.cell? ⟨w.heap.size, 2, none⟩ = some v2 ∧ (W.cell? ⟨w.heap.size + 1, 0, none⟩ = some (.int .i64 x) ∧ W.cell? ⟨w.heap.size + 1, 1, none⟩ = some (.int .i64 y) ∧ W.cell? ⟨w.heap.size + 1, 2, none⟩ = some (.string (bs q)) ∧ W.cell? ⟨w.heap.size + 1, 3, none⟩ = some (.string (bs b)) ∧ W.cell? ⟨w.heap.size + 1, 4, none⟩ = some (.int .i64 c)) ∧ RsB (w.heap.size + 1 + 1) W)) := fun W hW => by
    have e0 := (hW.block _ (lt_of_block hbk.out.1)).trans hbk.out.1
    have e1 := (hW.block _ (lt_of_block hbk.out.2.1)).trans hbk.out.2.1
    have e2 := (hW.block _ (lt_of_block hbk.out.2.2)).trans hbk.out.2.2
    exact ⟨cell_of_block e0 1, cell_of_block e0 2, ⟨cell_of_block e1 0, cell_of_block e1 1, cell_of_block e1 2, cell_of_block e1 3, cell_of_block e1 4⟩, e2⟩
  have hhas := hid (fun W (hW : Pure wz W) => (show Calls _ _ _ _ _ from by have := rchas_any _ _ B C (x, y) W (Row.pure h1 (Hpz.out.then_ hW)) (Row.pure h2 (Hpz.out.then_ hW)); rw [hn] at this; exact this))
  unfold mv at *
  unfold dv at hhas
  dsimp only at hmay hhas ⊢
  clear h0 h1 h2 hm hn
  go_enter Tryz.func30, Tryz.ntmps30
  go_wp2_with fail
  rw [← hwz]
  clear hwz
  obtain ⟨f1, f2, ⟨g0, g1, g2, g3, g4⟩, -⟩ := hBox.out wz (Below.refl _ _)
  go_wp2_with fail
  refine (hmay.out wz).mono ?_
  rintro e w1 ⟨rfl, hp1⟩
  clear f1 f2 g0 g1 g2 g3 g4
  obtain ⟨f1, f2, ⟨g0, g1, g2, g3, g4⟩, -⟩ := hBox.out w1 hp1
  have Hp1 := hid hp1
  clear hp1
  go_wp2_with fail
  refine (hhas.out w1 Hp1.out).mono ?_
  rintro e w2 ⟨rfl, hp2⟩
  have Hp2 := hid (Hp1.out.then_ hp2)
  clear f1 f2 g0 g1 g2 g3 g4 hp2
  obtain ⟨-, -, -, hR⟩ := hBox.out w2 Hp2.out
  obtain ⟨r0, r1, r2, r3, r4, r5⟩ := hR.cells
  obtain ⟨t0, t1, t2, hfin⟩ := bag_ret (w := w) (g := ([], [], [])) hR (by omega) (Hpz.out.then_ Hp2.out) (BR3.nil w2) (BFr.nil _)
  have T0 := hid t0
  have T1 := hid t1
  have T2 := hid t2
  have Hfin := hid (hfin.tup 13)
  clear t0 t1 t2 hfin hR
  go_wp2
  exact bodyPost_ret (v := .tuple #[.agg #[.slice none 0 0, .slice none 0 0, .slice none 0 0], .int .i64 13]) (by simp [results, Tryz.results30, go_sem, T0.out, T1.out, T2.out]) rfl Hfin.out
end Go.Proofs.YtcjggofcmjpfnaaGreat

