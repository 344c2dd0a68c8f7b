/- Rows of bags; sift.Gather, sift.Some, ref06's Some. ref06's Some. SiftParts. -/
import Derived.Test.YtcjggofcmjpfnaaGreatMSd
import Derived.Test.YtcjggofcmjpfnaaGreatMSj
import Derived.Test.YtcjggofcmjpfnaaGreatJQ
import Derived.Test.YtcjggofcmjpfnaaGreatFresh
import Derived.Deep.RegionLawGrows
import Derived.Test.YtcjggofcmjpfnaaGreatMSi
import Derived.Test.YtcjggofcmjpfnaaGreatMSk
namespace Go.Proofs.YtcjggofcmjpfnaaGreat
open Go.RowKit Go.Maps Go.Shelf Go.Sort

abbrev V3 := Value × Value × Value
def z3 : V3 := (.slice none 0 0, .slice none 0 0, .slice none 0 0)
def g0 : Bag := ([], [], [])
def bcells (t : V3) : List Value := [t.1, t.2.1, t.2.2]
def bvs (l : List V3) : List Value := l.flatMap bcells
theorem bvs_append (l k : List V3) : bvs (l ++ k) = bvs l ++ bvs k := by simp [bvs]
theorem bvs_len (l : List V3) : (bvs l).length = l.length * 3 := by
  induction l with
  | nil => rfl
  | cons d l ih => simp [bvs, bcells] at *; omega
theorem bvs_get : ∀ (l : List V3) (k : Nat), k < l.length → ∀ j, j < 3 → (bvs l)[k * 3 + j]? = (bcells (l.getD k z3))[j]?
  | [], k, h, _, _ => absurd h (Nat.not_lt_zero _)
  | d :: l, 0, _, j, hj => by
    have e : bvs (d :: l) = bcells d ++ bvs l := rfl
    rw [e, List.getElem?_append_left (by simp [bcells]; omega)]
    simp [List.getD]
  | d :: l, k + 1, h, j, hj => by
    have ih := bvs_get l k (by simpa using h) j hj
    have e : bvs (d :: l) = bcells d ++ bvs l := rfl
    have hl : (bcells d).length = 3 := rfl
    rw [e, List.getElem?_append_right (by rw [hl]; omega), hl, show (k + 1) * 3 + j - 3 = k * 3 + j by omega, ih]
    simp [List.getD]
/-- Three values that are one cell each. -/
def OneC (t : V3) : Prop := t.1.oneCell' = true ∧ t.2.1.oneCell' = true ∧ t.2.2.oneCell' = true
theorem bvs_one (l : List V3) (h : ∀ t ∈ l, OneC t) : ∀ u ∈ bvs l, u.oneCell' = true := by
  intro u hu
  simp only [bvs, List.mem_flatMap, bcells] at hu
  obtain ⟨t, ht, hu⟩ := hu
  obtain ⟨h1, h2, h3⟩ := h t ht
  simp at hu
  rcases hu with rfl | rfl | rfl
  · exact h1
  · exact h2
  · exact h3
theorem OneC.of {v0 v1 v2 : Value} {g : Bag} {W : World} (h : BR3 v0 v1 v2 g W) : OneC (v0, v1, v2) := by
  obtain ⟨h0, h1, h2⟩ := h
  obtain ⟨_, _, rfl⟩ := h0.shape
  obtain ⟨_, _, rfl⟩ := h1.shape
  obtain ⟨_, _, rfl⟩ := h2.shape
  exact ⟨rfl, rfl, rfl⟩
/-- The bags of a row, each read where it lies. -/
structure BagsR (T : List V3) (G : List Bag) (W : World) : Prop where
  len : T.length = G.length
  at_ : ∀ k, k < T.length → BR3 (T.getD k z3).1 (T.getD k z3).2.1 (T.getD k z3).2.2 (G.getD k g0) W
theorem BagsR.pure {T : List V3} {G : List Bag} {W W' : World} (h : BagsR T G W) (hp : Pure W W') : BagsR T G W' := ⟨h.len, fun k hk => (h.at_ k hk).pure hp⟩
theorem BagsR.nil (W : World) : BagsR [] [] W := ⟨rfl, fun _ hk => absurd hk (Nat.not_lt_zero _)⟩
theorem getD_append_l {α : Type} {l k : List α} {z : α} {n : Nat} (h : n < l.length) : (l ++ k).getD n z = l.getD n z := by
  simp [List.getD, List.getElem?_append_left h]
theorem getD_append_r {α : Type} {l : List α} {x z : α} : (l ++ [x]).getD l.length z = x := by simp [List.getD]
theorem BagsR.push {T : List V3} {G : List Bag} {W : World} (h : BagsR T G W) {t : V3} {g : Bag} (hr : BR3 t.1 t.2.1 t.2.2 g W) : BagsR (T ++ [t]) (G ++ [g]) W := by
  refine ⟨by simp [h.len], fun k hk => ?_⟩
  by_cases hlt : k < T.length
  · rw [getD_append_l hlt, getD_append_l (by rw [← h.len]; exact hlt)]
    exact h.at_ k hlt
  · have : k = T.length := by simp at hk; omega
    subst this
    rw [getD_append_r]
    have e : (G ++ [g]).getD T.length g0 = g := by rw [h.len]; exact getD_append_r
    rw [e]; exact hr
/-- None of their rows lies in block n. -/
def Away (n : Nat) (T : List V3) : Prop := ∀ t ∈ T, (∀ k, t.1.rb = some k → k ≠ n) ∧ (∀ k, t.2.1.rb = some k → k ≠ n) ∧ ∀ k, t.2.2.rb = some k → k ≠ n
theorem BagsR.kept {S : Nat → Prop} {T : List V3} {G : List Bag} {W W' : World} (h : BagsR T G W) (hk : Kept S W W') (ha : ∀ n, S n → n < W.heap.size → Away n T) : BagsR T G W' :=
  ⟨h.len, fun k hlt => by
    have hm : T.getD k z3 ∈ T := by simp [List.getD, hlt]
    have hr := h.at_ k hlt
    exact hr.kept hk (fun j hj hs => (ha j hs (hr.lt.1 j hj) _ hm).1 j hj rfl) (fun j hj hs => (ha j hs (hr.lt.2.1 j hj) _ hm).2.1 j hj rfl) (fun j hj hs => (ha j hs (hr.lt.2.2 j hj) _ hm).2.2 j hj rfl)⟩
theorem Row.get3 {w : World} {a : Option Addr} {n cap : Nat} {T : List V3} (h : Row w (.slice a n cap) T.length 3 (bvs T)) {k : Nat} (hk : k < T.length) :
    ∃ b off, a = some ⟨b, off, none⟩ ∧ b < w.heap.size ∧ w.cell? ⟨b, off + k * 3, none⟩ = some (T.getD k z3).1 ∧ w.cell? ⟨b, off + k * 3 + 1, none⟩ = some (T.getD k z3).2.1 ∧ w.cell? ⟨b, off + k * 3 + 2, none⟩ = some (T.getD k z3).2.2 := by
  have e : n = T.length := by obtain ⟨a', c', e⟩ := Row.shape h; injection e
  subst e
  obtain ⟨b, off, e, hb, hc⟩ := Row.elem h hk
  have g := bvs_get T k hk
  exact ⟨b, off, e, hb, (hc 0 (by omega)).trans (g 0 (by omega)), (hc 1 (by omega)).trans (g 1 (by omega)), (hc 2 (by omega)).trans (g 2 (by omega))⟩
/-- A bag that is stored, again and again, in block o. -/
structure BA (o : Nat) (wz : World) (y0 y1 y2 : Value) (g : Bag) (W : World) : Prop where
  b : W.heap[o]? = some (.cells #[y0, y1, y2] 31 (0, 0))
  r : BR3 y0 y1 y2 g W
  f : BFr (o + 1) y0 y1 y2
  k : Kept (fun j => j = o) wz W
section
variable {o : Nat} {wz W W' : World} {y0 y1 y2 u0 u1 u2 : Value} {g h : Bag}
theorem BA.pure (h : BA o wz y0 y1 y2 g W) (hp : Pure W W') : BA o wz y0 y1 y2 g W' := ⟨(hp.block _ (lt_of_block h.b)).trans h.b, h.r.pure hp, h.f, h.k.trans hp.kept⟩
theorem BA.cells (h : BA o wz y0 y1 y2 g W) : W.cell? ⟨o, 0, none⟩ = some y0 ∧ W.cell? ⟨o, 1, none⟩ = some y1 ∧ W.cell? ⟨o, 2, none⟩ = some y2 ∧ W.frozen? ⟨o, 0, none⟩ = false ∧ W.frozen? ⟨o, 1, none⟩ = false ∧ W.frozen? ⟨o, 2, none⟩ = false :=
  ⟨cell_of_block h.b 0, cell_of_block h.b 1, cell_of_block h.b 2, free_of_block h.b 0, free_of_block h.b 1, free_of_block h.b 2⟩
theorem BA.store (hA : BA o wz y0 y1 y2 g W) (hr : BR3 u0 u1 u2 h W) (hf : BFr (o + 1) u0 u1 u2) : BA o wz u0 u1 u2 h (((W.setCell ⟨o, 0, none⟩ u0).setCell ⟨o, 1, none⟩ u1).setCell ⟨o, 2, none⟩ u2) :=
  ⟨set3 hA.b _ _ _, hr.kept (kept3 W o _ _ _) (fun k hk e => by have := hf.1 k hk; omega) (fun k hk e => by have := hf.2.1 k hk; omega) (fun k hk e => by have := hf.2.2 k hk; omega), hf, hA.k.trans (kept3 W o _ _ _)⟩
end

set_option maxRecDepth 8000 in
set_option maxHeartbeats 4000000 in
theorem gather_any (v : Value) (T : List V3) (G : List Bag) (U : List Dot) (w : World) (hv : Row w v T.length 3 (bvs T)) (hT : BagsR T G w) (hG : ∀ g ∈ G, BOk U g) (hU : U.length ≤ 200) :
    Calls Tryz.prog 26 #[v] w (BagO w (bgather G)) := by
  obtain ⟨a, c, rfl⟩ := Row.shape hv
  have hll : T.length ≤ maxLen := Row.len_le hv
  unfold maxLen at hll
  obtain ⟨wz, hwz⟩ : ∃ wz, wz = (w.alloc (.cells #[.slice none 0 0, .slice none 0 0, .slice none 0 0] 31)).alloc (.cells #[.slice none 0 0, .slice none 0 0, .slice none 0 0] 31) := ⟨_, rfl⟩
  have Hpz := hid (show Pure w wz from by rw [hwz]; exact ((Below.refl _ _).alloc (Nat.le_refl _) _).alloc (by simp) _)
  have hsz : wz.heap.size = w.heap.size + 2 := by rw [hwz]; simp
  have n1 := block_alloc_new (w.alloc (.cells #[.slice none 0 0, .slice none 0 0, .slice none 0 0] 31)) (.cells #[.slice none 0 0, .slice none 0 0, .slice none 0 0] 31)
  simp only [World.size_alloc] at n1
  have hR : RsB w.heap.size wz := by unfold RsB; rw [hwz]; exact block_alloc_old (block_alloc_new _ _) _
  have Hst := hid (show BA (w.heap.size + 1) wz (.slice none 0 0) (.slice none 0 0) (.slice none 0 0) ([], [], []) wz from ⟨by rw [hwz]; exact n1, BR3.nil _, BFr.nil _, Kept.refl _ _⟩)
  have HRz := hid hR
  have HT := hid (fun W (hW : Kept (fun j => j = w.heap.size + 1) wz W) => (show Row W _ T.length 3 (bvs T) ∧ BagsR T G W from
    ⟨Row.kept (Row.pure hv Hpz.out) hW (fun k hk e => by have := Row.lt hv k hk; omega), (hT.pure Hpz.out).kept hW (fun n e hn t ht => by
      obtain ⟨i, hi, rfl⟩ := List.getElem_of_mem ht
      have hr := hT.at_ i hi
      have e3 : T.getD i z3 = T[i] := by simp [List.getD, hi]
      rw [e3] at hr
      exact ⟨fun k hk e' => by have := hr.lt.1 k hk; omega, fun k hk e' => by have := hr.lt.2.1 k hk; omega, fun k hk e' => by have := hr.lt.2.2 k hk; omega⟩)⟩))
  have HG := hid hG
  have hgd := hid (fun k (hk : k < T.length) => (show BOk U (G.getD k g0) from hG _ (by have := hT.len; simp [List.getD, show k < G.length by omega])))
  have hok := hid (fun k => (show BOk U (bgather (G.take k)) from bgather_ok (fun g hg => hG g (List.mem_of_mem_take hg))))
  have Hlen := hid hT.len
  have Hsz := hid hsz
  have HU := hid hU
  clear hv hT hG n1 hR hsz hU
  go_enter Tryz.func26, Tryz.ntmps26
  go_wp2_with fail
  rw [← hwz]
  clear hwz
  go_loopw [8] (fun i wr => ∃ (k : Nat) (y0 y1 y2 : Value), k ≤ T.length ∧ i = .int .i64 k ∧ BA (w.heap.size + 1) wz y0 y1 y2 (bgather (G.take k)) wr) (fun i _ => T.length - (RowKit.intOf i).toNat)
  case atStart => exact ⟨0, _, _, _, Nat.zero_le _, rfl, Hst.out⟩
  case round =>
    obtain ⟨k, y0, y1, y2, hk, rfl, hA⟩ := hrel
    have HA := hid hA
    by_cases hlt : k < T.length
    · have hlt' : (k : Int) < (T.length : Int) := by omega
      obtain ⟨hrow, hbags⟩ := HT.out wr hA.k
      obtain ⟨b, off, rfl, hb, x0, x1, x2⟩ := Row.get3 hrow hlt
      have hx := hbags.at_ k hlt
      have Hstep := hid (gather_take G k (by have := Hlen.out; omega) g0)
      have okx := hid (hgd.out k hlt)
      have oky := hid (hok.out k)
      generalize G.getD k g0 = gx at *
      generalize bgather (G.take k) = gy at *
      generalize T.getD k z3 = tt at *
      obtain ⟨t0, t1, t2⟩ := tt
      dsimp only at hx x0 x1 x2
      obtain ⟨_, _, rfl⟩ := hx.1.shape
      obtain ⟨_, _, rfl⟩ := hx.2.1.shape
      obtain ⟨_, _, rfl⟩ := hx.2.2.shape
      obtain ⟨_, _, rfl⟩ := hA.r.1.shape
      obtain ⟨_, _, rfl⟩ := hA.r.2.1.shape
      obtain ⟨_, _, rfl⟩ := hA.r.2.2.shape
      obtain ⟨o0, o1, o2, _, _, _⟩ := hA.cells
      have Hx := hid hx
      have Hj := hid (fun W (hW : Pure wr W) => sjoin_any _ _ _ _ _ _ gy gx U U W (hA.r.pure hW) (hx.pure hW) oky.out okx.out HU.out HU.out)
      have hos := lt_of_block hA.b
      clear hA hrow hbags hx
      unfold BagO at Hj
      go_wp2_with fail
      generalize hwb : wr.alloc _ = wb
      have hpb := hid (show Pure wr wb from by rw [← hwb]; exact (Below.refl _ _).alloc (Nat.le_refl _) _)
      clear hwb
      refine (Hj.out wb hpb.out).mono ?_
      rintro e w9 ⟨u0, u1, u2, rfl, h9, hp9, hf9⟩
      obtain ⟨_, _, rfl⟩ := h9.1.shape
      obtain ⟨_, _, rfl⟩ := h9.2.1.shape
      obtain ⟨_, _, rfl⟩ := h9.2.2.shape
      have HA9 := HA.out.pure (hpb.out.then_ hp9)
      have Hn := hid (HA9.store h9 (hf9.mono (by have := hpb.out.size; omega)))
      obtain ⟨q0, q1, q2, q3, q4, q5⟩ := HA9.cells
      clear HA9 h9 hp9 hf9 x0 x1 x2 o0 o1 o2
      go_wp2
      go_roundw
      case rel => exact ⟨k + 1, _, _, _, by omega, by go_num, by rw [Hstep.out]; exact Hn.out⟩
      case measure => simp [RowKit.intOf]; omega
    · have hlt' : ¬ (k : Int) < (T.length : Int) := by omega
      rw [List.take_of_length_le (by have := Hlen.out; omega)] at HA hA
      obtain ⟨o0, o1, o2, _, _, _⟩ := hA.cells
      have hR : RsB w.heap.size wr := (hA.k.block _ (lt_of_block HRz.out) (by omega)).trans HRz.out
      obtain ⟨r0, r1, r2, r3, r4, r5⟩ := hR.cells
      have hpw : Pure w wr := by
        have h2 : Kept (fun j => w.heap.size ≤ j) w wr := (Pure.kept Hpz.out).trans (hA.k.mono (fun j _ e => by omega))
        exact h2.below (Nat.le_refl _) (fun j hj e => by omega)
      obtain ⟨t0, t1, t2, hfin⟩ := bag_ret (w := w) (g := bgather G) hR (by omega) hpw hA.r (hA.f.mono (by omega))
      obtain ⟨_, _, rfl⟩ := hA.r.1.shape
      obtain ⟨_, _, rfl⟩ := hA.r.2.1.shape
      obtain ⟨_, _, rfl⟩ := hA.r.2.2.shape
      have T0 := hid t0
      have T1 := hid t1
      have T2 := hid t2
      have Hfin := hid hfin
      clear t0 t1 t2 hfin hpw hA hR
      go_wp2
      exact bodyPost_ret (v := .agg #[_, _, _]) (by simp [results, Tryz.results26, go_sem, T0.out, T1.out, T2.out]) rfl Hfin.out

theorem infoBag : (Tryz.prog.info? 31).map (fun i => (i.zero, i.size, i.bytes)) = some (some (.agg #[.slice none 0 0, .slice none 0 0, .slice none 0 0]), 3, 72) := by kernel_rfl
theorem wpList_append_bags {ops : Array Oper} {rest : List Oper} {o : Oper} {a : Act} {Q : Exit → Act → World → Prop} {w : World} (hgd : o.guard = none) (s x : Operand)
    (ho : o.op = .call { callee := .builtin .append, args := #[s, x], argTypes := #[50, 50] }) (base : Nat) (v : Value) (xs : List V3) (n : Nat) (hs : a.eval s = v)
    (hown : w.ownsRow base 31 3 v n (bvs xs)) (u : Value) (k : List V3) (m : Nat) (hx : a.eval x = u) (hu : Row w u m 3 (bvs k)) (hk : ∀ t ∈ k, OneC t) (hlen : n + m ≤ 1000000) (hbase : base ≤ w.heap.size)
    (h : ∀ v' w', w'.ownsRow base 31 3 v' (n + m) (bvs (xs ++ k)) → w.grownBy w' v.ownBlock → FreshOr w v v' → wpList Tryz.prog ops Q rest (a.put o.dst v') w') : wpList Tryz.prog ops Q (o :: rest) a w := by
  obtain ⟨i0, hi, hz0, hz1, hz2⟩ := info_parts infoBag
  exact wpList_append_rows2 hgd s x _ ho base 31 i0 _ 3 72 Tryz.underlying50 hi hz0 hz1 hz2 rfl (by decide) (by decide) v n _ hs hown u m _ hx hu (bvs_one k hk) hlen hbase (fun v' w' q1 q2 q3 => h v' w' (by rw [bvs_append]; exact q1) q2 q3)
theorem bags_lit (w : World) (t : V3) : Row (w.alloc (.cells #[t.1, t.2.1, t.2.2] 31)) (.slice (some ⟨w.heap.size, 0, none⟩) 1 1) 1 3 (bvs [t]) := by
  refine ⟨rfl, _, _, rfl, Nat.le_refl _, by unfold maxLen; omega, .inr ⟨_, _, rfl, by simp, fun i hi => ?_⟩⟩
  rw [Nat.zero_add, World.cell?_alloc_new]
  simp [bvs, bcells]
/-- Parts that were put into a row of the call's own. -/
structure PS (base : Nat) (v : Value) (T : List V3) (G : List Bag) (W : World) : Prop where
  own : W.ownsRow base 31 3 v T.length (bvs T)
  r : BagsR T G W
  away : ∀ j, v.ownBlock = some j → Away j T
theorem PS.nil (W : World) : PS W.heap.size (.slice none 0 0) [] [] W := ⟨World.ownsRow_nil _ _ _ _, BagsR.nil W, fun _ _ t ht => by simp at ht⟩
theorem PS.pure {base : Nat} {v : Value} {T : List V3} {G : List Bag} {W W' : World} (h : PS base v T G W) (hp : Pure W W') : PS base v T G W' := ⟨own_pure h.own hp, h.r.pure hp, h.away⟩
theorem PS.push {base : Nat} {v v' : Value} {T : List V3} {G : List Bag} {t : V3} {g : Bag} {W Wa W' : World} (h : PS base v T G W) (hpa : Pure W Wa) (hr : BR3 t.1 t.2.1 t.2.2 g Wa) (hf : BFr W.heap.size t.1 t.2.1 t.2.2)
    (hown : W'.ownsRow base 31 3 v' (T.length + 1) (bvs (T ++ [t]))) (hg : Wa.grownBy W' v.ownBlock) (hn : FreshOr Wa v v') : PS base v' (T ++ [t]) (G ++ [g]) W' := by
  have hal : ∀ j, j < W.heap.size → v.ownBlock = some j → Away j (T ++ [t]) := fun j hj e x hx => by
    rcases List.mem_append.1 hx with hx | hx
    · exact h.away j e x hx
    · simp only [List.mem_singleton] at hx
      subst hx
      exact ⟨fun k hk e => by have := hf.1 k hk; omega, fun k hk e => by have := hf.2.1 k hk; omega, fun k hk e => by have := hf.2.2 k hk; omega⟩
  have hT := (h.r.pure hpa).push hr
  refine ⟨by rw [List.length_append]; exact hown, ?_, fun j hj => ?_⟩
  · have hk : Kept (fun j => v.ownBlock = some j) Wa W' := Kept.grown (Kept.refl _ _) hg (fun k hk _ => hk)
    exact hT.kept hk (fun n e _ => hal n (h.own.lt n e).2 e)
  · rcases hn with e | ⟨k, e, hk⟩
    · rw [hj] at e
      exact hal j (h.own.lt j e.symm).2 e.symm
    · rw [hj] at e
      cases e
      intro x hx
      obtain ⟨i, hi, rfl⟩ := List.getElem_of_mem hx
      have hb := hT.at_ i hi
      have e3 : (T ++ [t]).getD i z3 = (T ++ [t])[i] := by simp only [List.getD, List.getElem?_eq_getElem hi, Option.getD_some]
      rw [e3] at hb
      exact ⟨fun k hk e' => by have := hb.lt.1 k hk; omega, fun k hk e' => by have := hb.lt.2.1 k hk; omega, fun k hk e' => by have := hb.lt.2.2 k hk; omega⟩
theorem parts_take (g : Bag) (l : List Int) (k : Nat) (h : k < l.length) : (l.take (k + 1)).map (bpart g) = (l.take k).map (bpart g) ++ [bpart g (l.getD k 0)] := by
  rw [take_succ_get l k h]; simp

set_option maxRecDepth 8000 in
set_option maxHeartbeats 4000000 in
theorem ssome_any (v0 v1 v2 v : Value) (g : Bag) (N : List Int) (U : List Dot) (w : World) (hr : BR3 v0 v1 v2 g w) (hg : BOk U g) (hU : U.length ≤ 200) (hv : Ints w v N) (hN : N.length ≤ 1000) :
    Calls Tryz.prog 24 #[.agg #[v0, v1, v2], v] w (BagO w (bsome g N)) := by
  obtain ⟨a, c, rfl⟩ := hv.shape
  obtain ⟨wz, hwz⟩ : ∃ wz, wz = (w.alloc (.cells #[v0, v1, v2] 31)).alloc (.cells #[.slice none 0 0, .slice none 0 0, .slice none 0 0] 31) := ⟨_, rfl⟩
  have Hpz := hid (show Pure w wz from by rw [hwz]; exact ((Below.refl _ _).alloc (Nat.le_refl _) _).alloc (by simp) _)
  have hsz : wz.heap.size = w.heap.size + 2 := by rw [hwz]; simp
  have n1 := block_alloc_new (w.alloc (.cells #[v0, v1, v2] 31)) (.cells #[.slice none 0 0, .slice none 0 0, .slice none 0 0] 31)
  simp only [World.size_alloc] at n1
  have HRz : Hid (RsB (w.heap.size + 1) wz) := by show wz.heap[_]? = _; rw [hwz]; exact n1
  have HX : Hid (∀ W, Pure wz W → BX w.heap.size v0 v1 v2 g W) := fun W hW => by
    have : BX w.heap.size v0 v1 v2 g wz := ⟨by rw [hwz]; exact block_alloc_old (block_alloc_new _ _) _, hr.pure Hpz.out⟩
    exact this.pure hW
  have Hprt := hid (fun W (hW : Pure wz W) x => partG x (hr.pure (Hpz.out.then_ hW)) hg (show U.length ≤ 400 by omega))
  have HN := hid (fun W (hW : Pure wz W) => (show Ints W _ N from Row.pure hv (Hpz.out.then_ hW)))
  have okp := hid (fun x => hg.part x)
  have Hsz := hid hsz
  have HU := hid hU
  unfold BagO at Hprt
  clear hr hg hv n1 hsz hU
  go_enter Tryz.func24, Tryz.ntmps24
  go_wp2_with fail
  rw [← hwz]
  clear hwz
  go_loopw [5, 10] (fun v i wr => ∃ (k : Nat) (T : List V3), k ≤ N.length ∧ T.length = k ∧ i = .int .i64 k ∧ PS wz.heap.size v T ((N.take k).map (bpart g)) wr ∧ Pure wz wr) (fun _ i _ => N.length - (RowKit.intOf i).toNat)
  case atStart => exact ⟨0, [], Nat.zero_le _, rfl, rfl, PS.nil _, Below.refl _ _⟩
  case round =>
    obtain ⟨k, T, hk, hTk, rfl, hP, hp⟩ := hrel
    have hTl : T.length ≤ 1000 := by omega
    have HTk := hid hTk
    clear hTk
    have HP := hid hP
    have Hp := hid hp
    obtain ⟨x0, x1, x2⟩ := (HX.out wr hp).cells
    obtain ⟨aT, cT, rfl⟩ := Row.shape (Row.of_own hP.own)
    by_cases hlt : k < N.length
    · have hlt' : (k : Int) < (N.length : Int) := by omega
      obtain ⟨bn, on, rfl, hbn, hx⟩ := ints_get_j (HN.out wr hp) hlt
      have Hstep := hid (parts_take g N k hlt)
      generalize N.getD k 0 = x at *
      have Hc := hid (Hprt.out wr hp x)
      generalize (N.take k).map (bpart g) = G at *
      generalize bpart g x = gx at *
      have hsr := hp.size
      clear hP hp hbn
      go_wp2_with fail
      refine Hc.out.mono ?_
      rintro e w9 ⟨u0, u1, u2, rfl, h9, hp9, hf9⟩
      have H9 := hid h9
      have F9 := hid hf9
      have P9 := hid hp9
      have hone := hid (OneC.of h9)
      obtain ⟨p0, k0, rfl⟩ := h9.1.shape
      obtain ⟨p1, k1, rfl⟩ := h9.2.1.shape
      obtain ⟨p2, k2, rfl⟩ := h9.2.2.shape
      have hs9 := hp9.size
      clear h9 hp9 hf9 x0 x1 x2 hx
      go_wp2_with (at_builtin; refine wpList_append_bags rfl _ _ rfl wz.heap.size _ T T.length rfl ((HP.out.pure P9.out).own.alloc _) _ [(.slice p0 gx.1.length k0, .slice p1 gx.2.1.length k1, .slice p2 gx.2.2.length k2)] 1 rfl (bags_lit w9 (.slice p0 gx.1.length k0, .slice p1 gx.2.1.length k1, .slice p2 gx.2.2.length k2)) (fun t ht => by simp only [List.mem_singleton] at ht; subst ht; exact hone.out) (by omega) (by simp; omega) ?_)
      intro v8 w8 hown8 hg8 hn8
      have hpa : Pure wr (w9.alloc (.cells #[.slice p0 gx.1.length k0, .slice p1 gx.2.1.length k1, .slice p2 gx.2.2.length k2] 31)) := P9.out.alloc hs9 _
      have HP8 := hid (HP.out.push (t := (.slice p0 gx.1.length k0, .slice p1 gx.2.1.length k1, .slice p2 gx.2.2.length k2)) hpa (H9.out.pure ((Below.refl _ _).alloc (Nat.le_refl _) _)) F9.out hown8 hg8 hn8)
      have Hp8 := hid (((Hp.out.then_ P9.out).alloc (by omega) _).grown hg8 (by simp; omega) (fun k hk => (HP.out.own.lt k hk).1))
      clear hown8 hg8 hn8 hpa
      go_wp2
      go_roundw
      case rel => exact ⟨k + 1, T ++ [(.slice p0 gx.1.length k0, .slice p1 gx.2.1.length k1, .slice p2 gx.2.2.length k2)], by omega, by rw [List.length_append, HTk.out]; rfl, by go_num, by rw [Hstep.out]; exact HP8.out, Hp8.out⟩
      case measure => simp [RowKit.intOf]; omega
    · have hlt' : ¬ (k : Int) < (N.length : Int) := by omega
      rw [List.take_of_length_le (by omega)] at HP hP
      have Hc := hid (gather_any _ T (N.map (bpart g)) U wr (Row.of_own hP.own) hP.r (fun y hy => by obtain ⟨n, _, rfl⟩ := List.mem_map.1 hy; exact okp.out n) HU.out)
      unfold BagO at Hc
      have hsr := hp.size
      clear hP hp x0 x1 x2
      go_wp2_with fail
      refine Hc.out.mono ?_
      rintro e w9 ⟨u0, u1, u2, rfl, h9, hp9, hf9⟩
      have hR : RsB (w.heap.size + 1) w9 := ((Hp.out.then_ hp9).block _ (lt_of_block HRz.out)).trans HRz.out
      obtain ⟨r0, r1, r2, r3, r4, r5⟩ := hR.cells
      obtain ⟨t0, t1, t2, hfin⟩ := bag_ret (w := w) (g := bsome g N) hR (by omega) (Hpz.out.then_ (Hp.out.then_ hp9)) h9 (hf9.mono (by have := Hsz.out; omega))
      obtain ⟨_, _, rfl⟩ := h9.1.shape
      obtain ⟨_, _, rfl⟩ := h9.2.1.shape
      obtain ⟨_, _, rfl⟩ := h9.2.2.shape
      have T0 := hid t0
      have T1 := hid t1
      have T2 := hid t2
      have Hfin := hid hfin
      clear t0 t1 t2 hfin h9 hp9 hf9 hR
      go_wp2
      exact bodyPost_ret (v := .agg #[_, _, _]) (by simp [results, Tryz.results24, go_sem, T0.out, T1.out, T2.out]) rfl Hfin.out
end Go.Proofs.YtcjggofcmjpfnaaGreat

namespace Go.Proofs.YtcjggofcmjpfnaaGreat
open Go.RowKit Go.Maps Go.Shelf Go.Sort

set_option maxRecDepth 8000 in
set_option maxHeartbeats 8000000 in
theorem rsome_any (v0 v1 v2 v : Value) (g : Bag) (N : List Int) (U : List Dot) (w : World) (hr : BR3 v0 v1 v2 g w) (hg : BOk U g) (hU : U.length ≤ 200) (hv : Ints w v N) :
    Calls Tryz.prog 25 #[.agg #[v0, v1, v2], v] w (BagO w (bsome g N)) := by
  obtain ⟨a, c, rfl⟩ := hv.shape
  have hll : N.length ≤ maxLen := Row.len_le hv
  unfold maxLen at hll
  obtain ⟨wz, hwz⟩ : ∃ wz, wz = ((w.alloc (.cells #[v0, v1, v2] 31)).alloc (.cells #[.slice none 0 0, .slice none 0 0, .slice none 0 0] 31)).alloc (.cells #[.slice none 0 0, .slice none 0 0, .slice none 0 0] 31) := ⟨_, rfl⟩
  have Hpz := hid (show Pure w wz from by rw [hwz]; exact (((Below.refl _ _).alloc (Nat.le_refl _) _).alloc (by simp) _).alloc (by simp; omega) _)
  have hsz : wz.heap.size = w.heap.size + 3 := by rw [hwz]; simp
  have n1 := block_alloc_new (w.alloc (.cells #[v0, v1, v2] 31)) (.cells #[.slice none 0 0, .slice none 0 0, .slice none 0 0] 31)
  have n2 := block_alloc_new ((w.alloc (.cells #[v0, v1, v2] 31)).alloc (.cells #[.slice none 0 0, .slice none 0 0, .slice none 0 0] 31)) (.cells #[.slice none 0 0, .slice none 0 0, .slice none 0 0] 31)
  simp only [World.size_alloc] at n1 n2
  have HRz : Hid (RsB (w.heap.size + 1) wz) := by show wz.heap[_]? = _; rw [hwz]; exact block_alloc_old n1 _
  have Hst := hid (show BA (w.heap.size + 1 + 1) wz (.slice none 0 0) (.slice none 0 0) (.slice none 0 0) ([], [], []) wz from ⟨by rw [hwz]; exact n2, BR3.nil _, BFr.nil _, Kept.refl _ _⟩)
  have hlt := hr.lt
  have Hlv := hid (Row.lt hv)
  have HX : Hid (∀ W, Kept (fun j => j = w.heap.size + 1 + 1) wz W → (W.cell? ⟨w.heap.size, 0, none⟩ = some v0 ∧ W.cell? ⟨w.heap.size, 1, none⟩ = some v1 ∧ W.cell? ⟨w.heap.size, 2, none⟩ = some v2 ∧ BR3 v0 v1 v2 g W ∧ Ints W (.slice a N.length c) N)) := fun W hW => by
    have e0 : wz.heap[w.heap.size]? = some (.cells #[v0, v1, v2] 31 (0, 0)) := by rw [hwz]; exact block_alloc_old (block_alloc_old (block_alloc_new _ _) _) _
    have e1 := (hW.block _ (lt_of_block e0) (by omega)).trans e0
    exact ⟨cell_of_block e1 0, cell_of_block e1 1, cell_of_block e1 2, (hr.pure Hpz.out).kept hW (fun k hk e => by have := hlt.1 k hk; omega) (fun k hk e => by have := hlt.2.1 k hk; omega) (fun k hk e => by have := hlt.2.2 k hk; omega),
      Row.kept (Row.pure hv Hpz.out) hW (fun k hk e => by have := Hlv.out k hk; omega)⟩
  have Hprt := hid (fun W (hW : Kept (fun j => j = w.heap.size + 1 + 1) wz W) x => rpartG x (HX.out W hW).2.2.2.1 hg (show U.length ≤ 400 by omega))
  have okp := hid (fun x => hg.part x)
  have oks := hid (fun M => bsome_ok hg M)
  have Hsz := hid hsz
  have HU := hid hU
  unfold BagO at Hprt
  clear hr hg hv n1 n2 hsz hU hlt
  go_enter Tryz.func25, Tryz.ntmps25
  go_wp2_with fail
  rw [← hwz]
  clear hwz
  go_loopw [6] (fun i wr => ∃ (k : Nat) (y0 y1 y2 : Value), k ≤ N.length ∧ i = .int .i64 k ∧ BA (w.heap.size + 1 + 1) wz y0 y1 y2 (bsome g (N.take k)) wr) (fun i _ => N.length - (RowKit.intOf i).toNat)
  case atStart => exact ⟨0, _, _, _, Nat.zero_le _, rfl, Hst.out⟩
  case round =>
    obtain ⟨k, y0, y1, y2, hk, rfl, hA⟩ := hrel
    have HA := hid hA
    obtain ⟨o0, o1, o2, q0, q1, q2⟩ := hA.cells
    by_cases hlt : k < N.length
    · have hlt' : (k : Int) < (N.length : Int) := by omega
      obtain ⟨bn, on, rfl, hbn, hx⟩ := ints_get_j (HX.out wr hA.k).2.2.2.2 hlt
      have Hstep := hid (some_take g N k hlt)
      have Hx := hid (fun W (hW : Kept (fun j => j = w.heap.size + 1 + 1) wz W) => (show W.cell? ⟨bn, on + k, none⟩ = some (.int .i64 (N.getD k 0)) from by
        obtain ⟨b', o', e, _, h⟩ := ints_get_j (HX.out W hW).2.2.2.2 hlt
        cases e; exact h))
      generalize N.getD k 0 = x at *
      have okx := hid (okp.out x)
      have oky := hid (oks.out (N.take k))
      have qp := hid (fun W (hW : Kept (fun j => j = w.heap.size + 1 + 1) wz W) => Hprt.out W hW x)
      generalize bsome g (N.take k) = gy at *
      generalize bpart g x = gx at *
      obtain ⟨_, _, rfl⟩ := hA.r.1.shape
      obtain ⟨_, _, rfl⟩ := hA.r.2.1.shape
      obtain ⟨_, _, rfl⟩ := hA.r.2.2.shape
      obtain ⟨b0, b1, b2, _, _⟩ := HX.out wr HA.out.k
      have Hdr := hid (show Pure wr wr.drew from (Below.refl _ _).drew)
      have HAd := hid (HA.out.pure (show Pure wr wr.drew from (Below.refl _ _).drew))
      have hj := hid (fun W x0 x1 x2 s0 s1 s2 (hA : BA (w.heap.size + 1 + 1) wz x0 x1 x2 gy W) (hs : BR3 s0 s1 s2 gx W) => rjoin5_any x0 x1 x2 s0 s1 s2 gy gx U U W hA.r hs oky.out okx.out HU.out HU.out)
      unfold BagO at hj
      clear hA hbn
      go_wp2_with fail
      go_region_law (first
        | (go_simp; go_at_call 21; (with_reducible refine (qp.out _ HAd.out.k).mono ?_); rintro e w7 ⟨s0, s1, s2, rfl, h7, hp7, hf7⟩; have HA7 := hid (HAd.out.pure hp7); have hj7 := hid (hj.out _ _ _ _ _ _ _ HA7.out h7); obtain ⟨_, _, rfl⟩ := h7.1.shape; obtain ⟨_, _, rfl⟩ := h7.2.1.shape; obtain ⟨_, _, rfl⟩ := h7.2.2.shape; obtain ⟨o70, o71, o72, q70, q71, q72⟩ := HA7.out.cells; clear h7 hp7 hf7)
        | (go_simp; go_at_call 28; (refine hj7.out.mono ?_); rintro e w9 ⟨t0, t1, t2, rfl, h9, hp9, hf9⟩; have HA9 := hid (HA7.out.pure hp9); have hs9 := hid (show w.heap.size + 1 + 1 + 1 ≤ w7.heap.size from lt_of_block HA7.out.b); have H9 := hid h9; have F9 := hid hf9; obtain ⟨_, _, rfl⟩ := h9.1.shape; obtain ⟨_, _, rfl⟩ := h9.2.1.shape; obtain ⟨_, _, rfl⟩ := h9.2.2.shape; obtain ⟨o90, o91, o92, q90, q91, q92⟩ := HA9.out.cells; clear h9 hp9 hf9))
      all_goals
        have Hn := hid (HA9.out.store H9.out (F9.out.mono hs9.out))
        clear o0 o1 o2 q0 q1 q2 o70 o71 o72 q70 q71 q72 o90 o91 o92 q90 q91 q92 qp hj hx
        go_wp2
        go_roundw
        (case rel => exact ⟨k + 1, _, _, _, by omega, by go_num, by rw [Hstep.out]; exact Hn.out⟩)
        (case measure => simp [RowKit.intOf]; omega)
    · have hlt' : ¬ (k : Int) < (N.length : Int) := by omega
      rw [List.take_of_length_le (by omega)] at HA hA
      have hR : RsB (w.heap.size + 1) wr := (hA.k.block _ (lt_of_block HRz.out) (by omega)).trans HRz.out
      obtain ⟨r0, r1, r2, r3, r4, r5⟩ := hR.cells
      have hpw : Pure w wr := by
        have h2 : Kept (fun j => w.heap.size ≤ j) w wr := (Pure.kept Hpz.out).trans (hA.k.mono (fun j _ e => by omega))
        exact h2.below (Nat.le_refl _) (fun j hj e => by omega)
      obtain ⟨t0, t1, t2, hfin⟩ := bag_ret (w := w) (g := bsome g N) hR (by omega) hpw hA.r (hA.f.mono (by omega))
      obtain ⟨_, _, rfl⟩ := hA.r.1.shape
      obtain ⟨_, _, rfl⟩ := hA.r.2.1.shape
      obtain ⟨_, _, rfl⟩ := hA.r.2.2.shape
      have T0 := hid t0
      have T1 := hid t1
      have T2 := hid t2
      have Hfin := hid hfin
      clear t0 t1 t2 hfin hpw hA hR
      go_wp2
      exact bodyPost_ret (v := .agg #[_, _, _]) (by simp [results, Tryz.results25, go_sem, T0.out, T1.out, T2.out]) rfl Hfin.out
end Go.Proofs.YtcjggofcmjpfnaaGreat

namespace Go.Proofs.YtcjggofcmjpfnaaGreat
open Go.RowKit Go.Maps Go.Shelf Go.Sort

theorem pbox1 (w : World) (a0 a1 : Value) : ∃ wz, wz = w.alloc (.cells #[a0, a1] 25) ∧ Hid (Pure w wz) ∧ Hid (∀ W, Pure wz W → (W.cell? ⟨w.heap.size, 0, none⟩ = some a0 ∧ W.cell? ⟨w.heap.size, 1, none⟩ = some a1 ∧ Pure wz W)) := by
  refine ⟨_, rfl, (Below.refl _ _).alloc (Nat.le_refl _) _, fun W hW => ?_⟩
  have n0 := block_alloc_new w (.cells #[a0, a1] 25)
  have e0 := (hW.block _ (lt_of_block n0)).trans n0
  exact ⟨cell_of_block e0 0, cell_of_block e0 1, hW⟩
theorem U64_le : U64.length ≤ 200 := by rw [U64_len]; decide
theorem row_ints_take {w : World} {b o cap : Nat} {L : List Int} {k : Nat} (h : Ints w (.slice (some ⟨b, o, none⟩) L.length cap) L) (hk : k ≤ L.length) : Ints w (.slice (some ⟨b, o, none⟩) k cap) (L.take k) := by
  have hT := row_pre h (k := k) hk
  have e1 : (L.take k).length = k := by rw [List.length_take]; omega
  unfold Ints
  rw [e1]
  simpa [List.map_take] using hT
theorem rsameP {v0 v1 v2 u0 u1 u2 : Value} {g : Bag} {W : World} (hr : BR3 v0 v1 v2 g W) (hs : BR3 u0 u1 u2 g W) : Calls Tryz.prog 12 #[.agg #[v0, v1, v2], .agg #[u0, u1, u2]] W fun e w' => e = .returned (.bool true) ∧ Pure W w' := by
  have := rsameG hr hs
  rw [decide_eq_true rfl] at this
  exact this
theorem isameP {v u : Value} {l : List Int} {W : World} (hv : Ints W v l) (hu : Ints W u l) : Calls Tryz.prog 17 #[v, u] W fun e w' => e = .returned (.bool true) ∧ Pure W w' := by
  have := same_any v u l l W hv hu
  rw [decide_eq_true rfl] at this
  exact this

set_option maxRecDepth 8000 in
set_option maxHeartbeats 8000000 in
theorem parts_walk (a0 a1 v : Value) (M : List Msg) (G : List Bool) (N : List Int) (w : World) (hp : PlanV w a0 a1 M G) (hv : Ints w v N) :
    Calls Tryz.prog 5 #[.agg #[a0, a1], v] w fun e w' => e = .returned (.bool true) ∧ Pure w w' := by
  obtain ⟨wz, hwz, Hpz, hS⟩ := pbox1 w a0 a1
  have HA := hid (fun W (hW : Pure wz W) => planG (hp.pure (Hpz.out.then_ hW)))
  have okA := hid (planB_ok M G)
  have HN := hid (fun W (hW : Pure wz W) => (show Ints W v N from Row.pure hv (Hpz.out.then_ hW)))
  have hNl : N.length ≤ maxLen := Row.len_le hv
  unfold maxLen at hNl
  unfold BagO at HA
  generalize planB M G = gA at *
  obtain ⟨av, cv, rfl⟩ := hv.shape
  clear hp hv
  go_enter Tryz.func5, Tryz.ntmps5
  go_wp2_with fail
  rw [← hwz]
  clear hwz
  refine (awake_any wz).mono ?_
  rintro e w1 ⟨rfl, hp1⟩
  have H1 := hid hp1
  obtain ⟨f0, f1, _⟩ := hS.out w1 hp1
  clear hp1
  go_wp2_with fail
  refine (HA.out w1 H1.out).mono ?_
  rintro e w2 ⟨x0, x1, x2, rfl, hr2, hp2, hf2⟩
  have hXa := BX.made hr2
  obtain ⟨y0, k0, rfl⟩ := hr2.1.shape
  obtain ⟨y1, k1, rfl⟩ := hr2.2.1.shape
  obtain ⟨y2, k2, rfl⟩ := hr2.2.2.shape
  obtain ⟨w3, hw3⟩ : ∃ w3, w3 = w2.alloc (.cells #[.slice y0 gA.1.length k0, .slice y1 gA.2.1.length k1, .slice y2 gA.2.2.length k2] 31) := ⟨_, rfl⟩
  rw [← hw3] at hXa
  have hp3 : Pure w2 w3 := by rw [hw3]; exact (Below.refl _ _).alloc (Nat.le_refl _) _
  have H3 := hid (H1.out.then_ (hp2.then_ hp3))
  have HXa := hid (fun W (hW : Pure w3 W) => hXa.pure hW)
  have HN3 := hid (HN.out w3 H3.out)
  clear f0 f1 hr2 hp2 hf2 hp3 hXa HA hS
  generalize hna : w2.heap.size = na at *
  go_upto_if 16 with fail
  rw [← hw3]
  clear hw3 hna
  generalize Value.slice y0 gA.1.length k0 = z0 at *
  generalize Value.slice y1 gA.2.1.length k1 = z1 at *
  generalize Value.slice y2 gA.2.2.length k2 = z2 at *
  go_cut [1] from 14 (fun lv wx => (∃ N', Ints wx lv N' ∧ N'.length ≤ 6) ∧ wx = w3)
  case first =>
    by_cases h6 : 6 < N.length
    · have h6' : (6 : Int) < (N.length : Int) := by omega
      obtain ⟨bl, ol, rfl, _, _⟩ := ints_get_j HN3.out (k := 0) (by omega)
      have hcap : N.length ≤ cv := by
        obtain ⟨_, a', c', e, q1, q2, _⟩ := HN3.out
        cases e; exact q1
      have h6c : (6 : Int) ≤ (cv : Int) := by omega
      have hT := hid (row_ints_take HN3.out (k := 6) (by omega))
      go_wp2
      go_meet
      case rel => exact ⟨⟨_, hT.out, by rw [List.length_take]; omega⟩, rfl⟩
    · have h6' : ¬ (6 : Int) < (N.length : Int) := by omega
      go_wp2
      go_meet
      case rel => exact ⟨⟨_, HN3.out, by omega⟩, rfl⟩
  case rest =>
  obtain ⟨⟨N', hN', hl6⟩, rfl⟩ := hcut
  obtain ⟨al, cl, rfl⟩ := hN'.shape
  have HL := hid (fun W (hW : Pure wc W) => (show Ints W _ N' from Row.pure hN' hW))
  clear HN HN3 hN' hNl
  go_upto_if 21 with fail
  go_cut [7] from 19 (fun nd wx => (∃ x : Int, nd = .int .i64 x) ∧ wx = wc)
  case first =>
    by_cases h0 : 0 < N'.length
    · have h0' : (0 : Int) < (N'.length : Int) := by omega
      obtain ⟨b, off, rfl, _, q0⟩ := ints_get_j (HL.out wc (Below.refl _ _)) h0
      simp only [Nat.add_zero] at q0
      go_wp2
      go_meet
      case rel => exact ⟨⟨_, rfl⟩, rfl⟩
    · have h0' : ¬ (0 : Int) < (N'.length : Int) := by omega
      go_wp2
      go_meet
      case rel => exact ⟨⟨_, rfl⟩, rfl⟩
  case rest =>
  obtain ⟨⟨x, rfl⟩, rfl⟩ := hcut
  have hSc : Hid (∀ W, Pure wc W → (W.cell? ⟨na, 0, none⟩ = some z0 ∧ W.cell? ⟨na, 1, none⟩ = some z1 ∧ W.cell? ⟨na, 2, none⟩ = some z2 ∧ Pure wc W)) := fun W hW => by
    obtain ⟨e0, e1, e2⟩ := (HXa.out W hW).cells
    exact ⟨e0, e1, e2, hW⟩
  have hSd : Hid (∀ W : World, (W.cell? ⟨na, 0, none⟩ = some z0 ∧ W.cell? ⟨na, 1, none⟩ = some z1 ∧ W.cell? ⟨na, 2, none⟩ = some z2 ∧ Pure wc W) → Pure wc W) := fun W h => h.2.2.2
  have hst := hid (hSc.out wc.drew (Below.refl _ _).drew)
  have qa := hid (fun W (hW : Pure wc W) => partG x (HXa.out W hW).r okA.out (Nat.le_trans U64_le (by decide)))
  have qb := hid (fun W (hW : Pure wc W) => rpartG x (HXa.out W hW).r okA.out (Nat.le_trans U64_le (by decide)))
  have qs := hid (fun W s0 s1 s2 t0 t1 t2 (ha : BR3 s0 s1 s2 (bpart gA x) W) (hb : BR3 t0 t1 t2 (bpart gA x) W) => rsameP ha hb)
  unfold BagO at qa qb
  generalize bpart gA x = Gx at *
  go_wp2_with fail
  go_region_held3 (fun W => W.cell? ⟨na, 0, none⟩ = some z0 ∧ W.cell? ⟨na, 1, none⟩ = some z1 ∧ W.cell? ⟨na, 2, none⟩ = some z2 ∧ Pure wc W)
    (first | with_reducible exact hst.out | with_reducible exact hSc.out _ (Pure.then_ (hSd.out _ (by assumption)) (by assumption)))
    ((first
      | (go_at_call 13; (with_reducible refine (qa.out _ (hSd.out _ (by assumption))).mono ?_); rintro e w7 ⟨s0, s1, s2, rfl, h7, hp7, _⟩)
      | (go_at_call 21; (with_reducible refine (qb.out _ (hSd.out _ (by assumption))).mono ?_); rintro e w8 ⟨t0, t1, t2, rfl, h8, hp8, _⟩)
      | (go_at_call 12; (first | (refine (qs.out _ _ _ _ _ _ _ (h7.pure hp8) h8).mono ?_) | (refine (qs.out _ _ _ _ _ _ _ h7 (h8.pure hp7)).mono ?_)); rintro e w9 ⟨rfl, hp9⟩)))
  have H9 := hid (hSd.out w9 (by assumption))
  clear h7 hp7 h8 hp8 hp9 hst hSc hSd qa qb qs
  have HXb := hid (fun W (hW : Pure w9 W) => HXa.out W (H9.out.then_ hW))
  have HLb := hid (fun W (hW : Pure w9 W) => HL.out W (H9.out.then_ hW))
  have hSc : Hid (∀ W, Pure w9 W → (W.cell? ⟨na, 0, none⟩ = some z0 ∧ W.cell? ⟨na, 1, none⟩ = some z1 ∧ W.cell? ⟨na, 2, none⟩ = some z2 ∧ Pure w9 W)) := fun W hW => by
    obtain ⟨e0, e1, e2⟩ := (HXb.out W hW).cells
    exact ⟨e0, e1, e2, hW⟩
  have hSd : Hid (∀ W : World, (W.cell? ⟨na, 0, none⟩ = some z0 ∧ W.cell? ⟨na, 1, none⟩ = some z1 ∧ W.cell? ⟨na, 2, none⟩ = some z2 ∧ Pure w9 W) → Pure w9 W) := fun W h => h.2.2.2
  have hst := hid (hSc.out w9.drew (Below.refl _ _).drew)
  have qa := hid (fun W (hW : Pure w9 W) => snodes_any _ _ _ gA U64 W (HXb.out W hW).r okA.out (Nat.le_trans U64_le (by decide)))
  have qb := hid (fun W (hW : Pure w9 W) => rcnodesG (X := gA.2) (HXb.out W hW).r.2.1 (HXb.out W hW).r.2.2 okA.out.sml (Nat.le_trans U64_le (by decide)))
  have qs := hid (fun W s t (ha : Ints W s (cnodes gA.2.1 gA.2.2)) (hb : Ints W t (cnodes gA.2.1 gA.2.2)) => isameP ha hb)
  unfold IntsO at qa
  generalize cnodes gA.2.1 gA.2.2 = Nn at *
  go_wp2_with fail
  go_region_held3 (fun W => W.cell? ⟨na, 0, none⟩ = some z0 ∧ W.cell? ⟨na, 1, none⟩ = some z1 ∧ W.cell? ⟨na, 2, none⟩ = some z2 ∧ Pure w9 W)
    (first | with_reducible exact hst.out | with_reducible exact hSc.out _ (Pure.then_ (hSd.out _ (by assumption)) (by assumption)))
    ((first
      | (go_at_call 22; (with_reducible refine (qa.out _ (hSd.out _ (by assumption))).mono ?_); rintro e w7 ⟨s0, rfl, h7, hp7⟩)
      | (go_at_call 23; (with_reducible refine (qb.out _ (hSd.out _ (by assumption))).mono ?_); rintro e w8 ⟨t0, rfl, h8, hp8, _⟩)
      | (go_at_call 17; (first | (refine (qs.out _ _ _ (Row.of_own (own_pure h7 hp8)) h8).mono ?_) | (refine (qs.out _ _ _ (Row.of_own h7) (Row.pure h8 hp7)).mono ?_)); rintro e wb ⟨rfl, hp9⟩)))
  have Hb := hid (hSd.out wb (by assumption))
  clear h7 hp7 h8 hp8 hp9 hst hSc hSd qa qb qs HXa HL
  have HXa := hid (fun W (hW : Pure wb W) => HXb.out W (Hb.out.then_ hW))
  have HL := hid (fun W (hW : Pure wb W) => HLb.out W (Hb.out.then_ hW))
  clear HXb HLb
  have hSc : Hid (∀ W, Pure wb W → (W.cell? ⟨na, 0, none⟩ = some z0 ∧ W.cell? ⟨na, 1, none⟩ = some z1 ∧ W.cell? ⟨na, 2, none⟩ = some z2 ∧ Pure wb W)) := fun W hW => by
    obtain ⟨e0, e1, e2⟩ := (HXa.out W hW).cells
    exact ⟨e0, e1, e2, hW⟩
  have hSd : Hid (∀ W : World, (W.cell? ⟨na, 0, none⟩ = some z0 ∧ W.cell? ⟨na, 1, none⟩ = some z1 ∧ W.cell? ⟨na, 2, none⟩ = some z2 ∧ Pure wb W) → Pure wb W) := fun W h => h.2.2.2
  have hst := hid (hSc.out wb.drew (Below.refl _ _).drew)
  have qa := hid (fun W (hW : Pure wb W) => ssome_any _ _ _ _ gA N' U64 W (HXa.out W hW).r okA.out U64_le (HL.out W hW) (by omega))
  have qb := hid (fun W (hW : Pure wb W) => rsome_any _ _ _ _ gA N' U64 W (HXa.out W hW).r okA.out U64_le (HL.out W hW))
  have qs := hid (fun W s0 s1 s2 t0 t1 t2 (ha : BR3 s0 s1 s2 (bsome gA N') W) (hb : BR3 t0 t1 t2 (bsome gA N') W) => rsameP ha hb)
  unfold BagO at qa qb
  generalize bsome gA N' = Gx at *
  go_wp2_with fail
  go_region_held3 (fun W => W.cell? ⟨na, 0, none⟩ = some z0 ∧ W.cell? ⟨na, 1, none⟩ = some z1 ∧ W.cell? ⟨na, 2, none⟩ = some z2 ∧ Pure wb W)
    (first | with_reducible exact hst.out | with_reducible exact hSc.out _ (Pure.then_ (hSd.out _ (by assumption)) (by assumption)))
    ((first
      | (go_at_call 24; (with_reducible refine (qa.out _ (hSd.out _ (by assumption))).mono ?_); rintro e w7 ⟨s0, s1, s2, rfl, h7, hp7, _⟩)
      | (go_at_call 25; (with_reducible refine (qb.out _ (hSd.out _ (by assumption))).mono ?_); rintro e w8 ⟨t0, t1, t2, rfl, h8, hp8, _⟩)
      | (go_at_call 12; (first | (refine (qs.out _ _ _ _ _ _ _ (h7.pure hp8) h8).mono ?_) | (refine (qs.out _ _ _ _ _ _ _ h7 (h8.pure hp7)).mono ?_)); rintro e wd ⟨rfl, hp9⟩)))
  have Hd := hid (Hpz.out.then_ (H3.out.then_ (H9.out.then_ (Hb.out.then_ (hSd.out wd (by assumption))))))
  clear h7 hp7 h8 hp8 hp9 hst hSc hSd qa qb qs
  go_wp2
  go_ret
  exact ⟨rfl, Hd.out⟩
end Go.Proofs.YtcjggofcmjpfnaaGreat

