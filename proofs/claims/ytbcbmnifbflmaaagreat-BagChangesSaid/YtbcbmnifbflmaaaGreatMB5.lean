/- A row of bools that came in. law06: a plan's bag. law05: a plan's bag, as data; name, short, Plan.bag. -/
import Derived.Test.YtbcbmnifbflmaaaGreatMMs
import Derived.OpenShut
import Derived.Deep.Slices
import Derived.Deep.Fields
import Derived.ChangeSame
import Derived.Deep.Grids
import Derived.Test.YtbcbmnifbflmaaaGreatMSd
import Derived.Deep.CutRange
import Derived.Test.YtbcbmnifbflmaaaGreatMBg
import Derived.Deep.CutBlock
namespace Go.Proofs.YtbcbmnifbflmaaaGreat
open Go.RowKit Go.Maps Go.ChangeShapes Go.WideShapes Go.Deep

structure BoolsAt (w : World) (a : Option Addr) (n cap : Nat) (l : List Bool) : Prop where
  len : l.length = n
  le : n ≤ cap
  cap_le : cap ≤ maxLen
  cell : ∀ k, k < n → ∃ b off, a = some ⟨b, off, none⟩ ∧ b < w.heap.size ∧ w.cell? ⟨b, off + k, none⟩ = some (.bool (l.getD k false))
theorem bools_of_trod {H : Type} {enc : TypeId × Value → H} {W : World} {base : Nat} {held : Bool} {a : Option Addr} {len cap fuel : Nat} {x : DataW H × List MemPlace}
    (h : DataW.trod enc Tryz.prog W base (fun _ => true) held fuel 23 [.slice a len cap] = some x) : ∃ l, BoolsAt W a len cap l := by
  rcases open_bools Tryz.underlying23 Tryz.underlying4 (by kernel_rfl) h with ⟨hcs, _⟩ | ⟨ad, len', cap', B, hcs, _, hl, hm, _, hi⟩
  · simp at hcs
    obtain ⟨rfl, rfl, rfl⟩ := hcs
    exact ⟨[], rfl, Nat.le_refl _, Nat.zero_le _, fun k hk => absurd hk (Nat.not_lt_zero _)⟩
  · simp at hcs
    obtain ⟨rfl, rfl, rfl⟩ := hcs
    refine ⟨(List.range len).map B, by simp, hl, hm, fun k hk => ?_⟩
    have c0 := hi k (by omega)
    obtain ⟨b, off, spot⟩ := ad
    have hspot : spot = none := by simpa [Addr.add] using World.cell?_spot (hi 0 (by omega))
    subst hspot
    have e : ((List.range len).map B).getD k false = B k := by simp [List.getD, hk]
    rw [e]
    rw [Addr.add_lit] at c0
    exact ⟨b, off, rfl, World.block_lt_of_cell? W _ c0, c0⟩
theorem BoolsAt.pure {w w' : World} {a : Option Addr} {n cap : Nat} {l : List Bool} (h : BoolsAt w a n cap l) (hp : Pure w w') : BoolsAt w' a n cap l :=
  ⟨h.len, h.le, h.cap_le, fun k hk => by
    obtain ⟨b, off, e, hb, hc⟩ := h.cell k hk
    exact ⟨b, off, e, Nat.lt_of_lt_of_le hb hp.size, (hp.cell (p := ⟨b, off + k, none⟩) hb).trans hc⟩⟩
end Go.Proofs.YtbcbmnifbflmaaaGreat

namespace Go.Proofs.YtbcbmnifbflmaaaGreat
open Go.RowKit Go.Maps Go.Shelf Go.Sort

theorem take5 (l : List UInt8) : (bs l).extract 0 5 = bs (l.take 5) := by
  apply ByteArray.ext
  simp [bs, ByteArray.data_extract]
/-- What lies in memory while a plan's bag is being made: the plan in block s, the result in s + 1, the bag in s + 2. -/
structure PlW (s : Nat) (wz : World) (x0 x1 x2 : Value) (g : Bag) (W : World) : Prop where
  x : BX (s + 2) x0 x1 x2 g W
  f : BFr (s + 3) x0 x1 x2
  k : Kept (fun k => k = s + 2) wz W

theorem PlW.pure {s : Nat} {wz W W' : World} {x0 x1 x2 : Value} {g : Bag} (h : PlW s wz x0 x1 x2 g W) (hp : Pure W W') : PlW s wz x0 x1 x2 g W' := ⟨h.x.pure hp, h.f, h.k.trans hp.kept⟩
/-- Another bag is laid into it. -/
theorem PlW.set {s : Nat} {wz W : World} {x0 x1 x2 v0 v1 v2 : Value} {g h : Bag} (hP : PlW s wz x0 x1 x2 g W) (hr : BR3 v0 v1 v2 h W) (hf : BFr (s + 3) v0 v1 v2) :
    PlW s wz v0 v1 v2 h (((W.setCell ⟨s + 1 + 1, 0, none⟩ v0).setCell ⟨s + 1 + 1, 1, none⟩ v1).setCell ⟨s + 1 + 1, 2, none⟩ v2) :=
  ⟨⟨set3 hP.x.b v0 v1 v2, hr.kept (kept3 W (s + 2) v0 v1 v2) (fun k hk e => by have := hf.1 k hk; omega) (fun k hk e => by have := hf.2.1 k hk; omega) (fun k hk e => by have := hf.2.2 k hk; omega)⟩, hf, hP.k.trans (kept3 W (s + 2) v0 v1 v2)⟩
theorem PlW.cells {s : Nat} {wz W : World} {x0 x1 x2 : Value} {g : Bag} (h : PlW s wz x0 x1 x2 g W) : W.cell? ⟨s + 1 + 1, 0, none⟩ = some x0 ∧ W.cell? ⟨s + 1 + 1, 1, none⟩ = some x1 ∧ W.cell? ⟨s + 1 + 1, 2, none⟩ = some x2 ∧ W.frozen? ⟨s + 1 + 1, 0, none⟩ = false ∧ W.frozen? ⟨s + 1 + 1, 1, none⟩ = false ∧ W.frozen? ⟨s + 1 + 1, 2, none⟩ = false :=
  ⟨cell_of_block h.x.b 0, cell_of_block h.x.b 1, cell_of_block h.x.b 2, free_of_block h.x.b 0, free_of_block h.x.b 1, free_of_block h.x.b 2⟩
/-- ref05's Put, as plans ask it. -/
theorem rput_plan {v0 v1 v2 : Value} {g : Bag} (m : Msg) {U : List Dot} {W : World} (hr : BR3 v0 v1 v2 g W) (hg : BOk U g) (hU : U.length ≤ 400) (hm : mmay m = true) (hn : chas g.2.1 g.2.2 m.1 = false) :
    Calls Tryz.prog 20 #[.agg #[v0, v1, v2], mv m] W (BagT W (bput g m) 0) :=
  (rput_ok v0 v1 v2 g.1 g.2.1 g.2.2 m W hr.1 hr.2.1 hr.2.2 hm hn (by have := hg.len; omega) (by have := hg.sml.l0; have := hg.sml.l1; omega) hg.sml.bd).mono fun _ _ ⟨v, he, h1, h2, h3⟩ => by
    obtain ⟨u0, u1, u2, rfl, q0, q1, q2⟩ := h1
    exact ⟨u0, u1, u2, he, ⟨q0, q1, q2⟩, h2, h3 _ _ _ rfl⟩
theorem rremove_plan {v0 v1 v2 : Value} {g : Bag} (d : Dot) {U : List Dot} {W : World} (hr : BR3 v0 v1 v2 g W) (hg : BOk U g) (hU : U.length ≤ 400) (hd : dchk d = true) :
    Calls Tryz.prog 22 #[.agg #[v0, v1, v2], dv d] W (BagT W (bremove g d) 0) :=
  rremove_ok v0 v1 v2 g d W hr hd (by have := hg.len; omega) (by have := hg.sml.l0; have := hg.sml.l1; omega) hg.sml.bd

end Go.Proofs.YtbcbmnifbflmaaaGreat

namespace Go.Proofs.YtbcbmnifbflmaaaGreat
open Go.RowKit Go.Maps Go.Shelf Go.Sort

set_option maxHeartbeats 1000000 in
theorem name5_any (d : Dot) (w : World) : Calls Tryz.prog 11 #[dv d] w fun e w' => e = .returned (dv (pname d)) ∧ Pure w w' := by
  obtain ⟨x, y⟩ := d
  have hnx : 0 ≤ bits .and .i64 x 3 ∧ bits .and .i64 x 3 ≤ 3 := and_le x 3 (by decide)
  have hny : 0 ≤ bits .and .i64 y 15 ∧ bits .and .i64 y 15 ≤ 15 := and_le y 15 (by decide)
  have hw1 : wrap64 (1 + bits .and .i64 x 3) = 1 + bits .and .i64 x 3 := by unfold wrap64; omega
  have hw2 : wrap64 (1 + bits .and .i64 y 15) = 1 + bits .and .i64 y 15 := by unfold wrap64; omega
  have hpn := hid (show pname (x, y) = (1 + bits .and .i64 x 3, 1 + bits .and .i64 y 15) from rfl)
  unfold dv
  dsimp only
  go_enter Tryz.func11, Tryz.ntmps11
  go_wp2
  exact bodyPost_ret (v := .agg #[.int .i64 (1 + bits .and .i64 x 3), .int .i64 (1 + bits .and .i64 y 15)]) (by simp [results, Tryz.results11, go_sem]) rfl ⟨by rw [hpn.out], ((Below.refl _ _).alloc (Nat.le_refl _) _).alloc (by simp) _⟩
theorem takeN (l : List UInt8) (n : Nat) : (bs l).extract 0 n = bs (l.take n) := by
  apply ByteArray.ext
  simp [bs, ByteArray.data_extract]
set_option maxHeartbeats 1000000 in
theorem short5_any (l : List UInt8) (n : Nat) (hn : n ≤ 100) (w : World) : Calls Tryz.prog 18 #[.string (bs l), .int .i64 n] w fun e w' => e = .returned (.string (bs (l.take n))) ∧ w' = w := by
  have hbz := bs_size l
  have ht := takeN l n
  by_cases h : n < l.length
  · have h1 : (n : Int) < (bs l).size := by omega
    have h2 : n ≤ (bs l).size := by omega
    have h3 : (n : Int) ≤ ((bs l).size : Int) := by omega
    go_enter Tryz.func18, Tryz.ntmps18
    go_wp2
    go_ret
    exact ⟨rfl, rfl⟩
  · have h1 : ¬ (n : Int) < (bs l).size := by omega
    have e := hid (show l.take n = l from List.take_of_length_le (by omega))
    go_enter Tryz.func18, Tryz.ntmps18
    go_wp2
    go_ret
    exact ⟨by rw [e.out]; rfl, rfl⟩
def pmsg5 (m : Msg) : Msg := (pname m.1, 113 :: m.2.1.take 3, m.2.2.1.take 5, bits .and .i64 m.2.2.2 255)
theorem pmsg5_may (m : Msg) : mmay (pmsg5 m) = true := by
  have h : 0 ≤ bits .and .i64 m.2.2.2 255 ∧ bits .and .i64 m.2.2.2 255 ≤ 255 := and_le m.2.2.2 255 (by decide)
  have hc := pname_chk m.1
  unfold mmay pmsg5
  dsimp only
  rw [hc]
  have hl : (m.2.2.1.take 5).length ≤ 5 := by rw [List.length_take]; omega
  have hq : (m.2.1.take 3).length ≤ 3 := by rw [List.length_take]; omega
  simp only [List.length_cons, Bool.true_and, Bool.and_eq_true, decide_eq_true_eq]
  omega
def seenK (S : List Dot) : Nat → Bag
  | 0 => ([], [], [])
  | k + 1 => bremove (seenK S k) (pname (S.getD k (0, 0)))
def pstep5 (g : Bag) (m : Msg) (b : Bool) : Bag := if b then bremove (pput g (pmsg5 m)) (pname m.1) else pput g (pmsg5 m)
def planK5 (S : List Dot) (M : List Msg) (G : List Bool) : Nat → Bag
  | 0 => seenK S (min S.length 12)
  | k + 1 => pstep5 (planK5 S M G k) (M.getD k m0) (G.getD k false)
def planB5 (S : List Dot) (M : List Msg) (G : List Bool) : Bag := planK5 S M G (min M.length 12)
theorem seenK_ok (S : List Dot) : ∀ k, BOk U64 (seenK S k)
  | 0 => BOk.nil _
  | k + 1 => (seenK_ok S k).remove (pname_mem _)
theorem pput5_ok {g : Bag} (h : BOk U64 g) (m : Msg) : BOk U64 (pput g (pmsg5 m)) := by
  unfold pput
  split
  · exact h
  · rename_i hn
    exact h.put (pmsg5_may m) (pname_mem m.1) (by simpa using hn)
theorem pstep5_ok {g : Bag} (h : BOk U64 g) (m : Msg) (b : Bool) : BOk U64 (pstep5 g m b) := by
  unfold pstep5
  split
  · exact (pput5_ok h m).remove (pname_mem m.1)
  · exact pput5_ok h m
theorem planK5_ok (S : List Dot) (M : List Msg) (G : List Bool) : ∀ k, BOk U64 (planK5 S M G k)
  | 0 => seenK_ok S _
  | k + 1 => pstep5_ok (planK5_ok S M G k) _ _
theorem planB5_ok (S : List Dot) (M : List Msg) (G : List Bool) : BOk U64 (planB5 S M G) := planK5_ok S M G _
theorem catq (l : List UInt8) : (⟨#[113]⟩ : ByteArray) ++ bs l = bs (113 :: l) := by
  apply ByteArray.ext
  simp [bs, ByteArray.data_append]
theorem pset1 {n i : Nat} {w W : World} (h : Pure w W) (hn : w.heap.size ≤ n) (v : Value) : Pure w (W.setCell ⟨n, i, none⟩ v) := Below.setCell h hn v
theorem set5m {w : World} {b : Nat} {t0 t1 t2 t3 t4 : Value} {T : TypeId} (hb : w.heap[b]? = some (.cells #[t0, t1, t2, t3, t4] T (0, 0))) (v0 v1 v2 v3 v4 : Value) :
    (((((w.setCell ⟨b, 0, none⟩ v0).setCell ⟨b, 1, none⟩ v1).setCell ⟨b, 2, none⟩ v2).setCell ⟨b, 3, none⟩ v3).setCell ⟨b, 4, none⟩ v4).heap[b]? = some (.cells #[v0, v1, v2, v3, v4] T (0, 0)) := by
  have := block_setCell (block_setCell (block_setCell (block_setCell (block_setCell hb 0 v0) 1 v1) 2 v2) 3 v3) 4 v4
  simpa using this
abbrev ZB5 : Obj := .cells #[.slice none 0 0, .slice none 0 0, .slice none 0 0] 33
theorem pal5 (W : World) (o : Obj) : Pure W (W.alloc o) := (Below.refl _ _).alloc (Nat.le_refl _) _
theorem rsb5 (W : World) : RsB W.heap.size (W.alloc ZB5) := block_alloc_new _ _
theorem RsB.pure5 {n : Nat} {W W' : World} (h : RsB n W) (hp : Pure W W') : RsB n W' := (hp.block _ (lt_of_block h)).trans h
theorem boxset5 {n m : Nat} {W : World} {v0 v1 v2 : Value} {g : Bag} (hz : RsB n W) (hr : BR3 v0 v1 v2 g W) (hf : BFr m v0 v1 v2) (hn : n < m) : BX n v0 v1 v2 g (((W.setCell ⟨n, 0, none⟩ v0).setCell ⟨n, 1, none⟩ v1).setCell ⟨n, 2, none⟩ v2) :=
  ⟨set3 hz _ _ _, hr.kept (kept3 W n _ _ _) (fun k hk e => by have := hf.1 k hk; omega) (fun k hk e => by have := hf.2.1 k hk; omega) (fun k hk e => by have := hf.2.2 k hk; omega)⟩
theorem psetz5 {n : Nat} {w W : World} (h : Pure w W) (hn : w.heap.size ≤ n) (v0 v1 v2 : Value) : Pure w (((W.setCell ⟨n, 0, none⟩ v0).setCell ⟨n, 1, none⟩ v1).setCell ⟨n, 2, none⟩ v2) :=
  (Kept.trans (Pure.kept (S := fun k => w.heap.size ≤ k) h) ((kept3 W n v0 v1 v2).mono (fun k _ e => (show w.heap.size ≤ k by omega)))).below (Nat.le_refl _) (fun k hk e => by omega)

set_option maxRecDepth 8000 in
set_option maxHeartbeats 4000000 in
theorem plan5_any (vM vS : Value) (M : List Msg) (S : List Dot) (ag : Option Addr) (lg cg : Nat) (G : List Bool) (w : World) (hM : Msgs w vM M) (hG : BoolsAt w ag lg cg G) (hS : Dots w vS S) :
    Calls Tryz.prog 10 #[.agg #[vM, .slice ag lg cg, vS]] w (BagO w (planB5 S M G)) := by
  obtain ⟨aM, cM, rfl⟩ := hM.shape
  obtain ⟨aS, cS, rfl⟩ := hS.shape
  have hSl : S.length ≤ maxLen := Row.len_le hS
  unfold maxLen at hSl
  have hMl := hM.len_le
  unfold maxLen at hMl
  obtain ⟨wz, hwz⟩ : ∃ wz, wz = ((w.alloc (.cells #[.slice aM M.length cM, .slice ag lg cg, .slice aS S.length cS] 26)).alloc (.cells #[.slice none 0 0, .slice none 0 0, .slice none 0 0] 33)).alloc (.cells #[.slice none 0 0, .slice none 0 0, .slice none 0 0] 33) := ⟨_, rfl⟩
  have Hpz := hid (show Pure w wz from by rw [hwz]; exact (((Below.refl _ _).alloc (Nat.le_refl _) _).alloc (by simp) _).alloc (by simp; omega) _)
  have Hsz := hid (show wz.heap.size = w.heap.size + 3 from by rw [hwz]; simp)
  have n1 := block_alloc_new (w.alloc (.cells #[.slice aM M.length cM, .slice ag lg cg, .slice aS S.length cS] 26)) (.cells #[.slice none 0 0, .slice none 0 0, .slice none 0 0] 33)
  have n2 := block_alloc_new ((w.alloc (.cells #[.slice aM M.length cM, .slice ag lg cg, .slice aS S.length cS] 26)).alloc (.cells #[.slice none 0 0, .slice none 0 0, .slice none 0 0] 33)) (.cells #[.slice none 0 0, .slice none 0 0, .slice none 0 0] 33)
  simp only [World.size_alloc] at n1 n2
  have hbk : Hid (wz.heap[w.heap.size]? = some (.cells #[.slice aM M.length cM, .slice ag lg cg, .slice aS S.length cS] 26 (0, 0)) ∧ RsB (w.heap.size + 1) wz ∧ wz.heap[w.heap.size + 2]? = some (.cells #[.slice none 0 0, .slice none 0 0, .slice none 0 0] 33 (0, 0))) := by
    show _ ∧ wz.heap[w.heap.size + 1]? = _ ∧ _
    rw [hwz]
    exact ⟨block_alloc_old (block_alloc_old (block_alloc_new _ _) _) _, block_alloc_old n1 _, n2⟩
  clear n1 n2
  have HF : Hid (∀ W, Kept (fun k => k = w.heap.size + 2) wz W → (W.cell? ⟨w.heap.size, 0, none⟩ = some (.slice aM M.length cM) ∧ W.cell? ⟨w.heap.size, 1, none⟩ = some (.slice ag lg cg) ∧ Msgs W (.slice aM M.length cM) M ∧ BoolsAt W ag lg cg G ∧ RsB (w.heap.size + 1) W)) := fun W hW => by
    have e0 := (hW.block _ (lt_of_block hbk.out.1) (by omega)).trans hbk.out.1
    have e1 := (hW.block _ (lt_of_block hbk.out.2.1) (by omega)).trans hbk.out.2.1
    refine ⟨cell_of_block e0 0, cell_of_block e0 1, Row.kept (Row.pure hM Hpz.out) hW (fun k hk e => by have := Row.lt hM k hk; omega), ⟨hG.len, hG.le, hG.cap_le, fun k hk => ?_⟩, e1⟩
    obtain ⟨b, off, e, hb, hc⟩ := hG.cell k hk
    have hs := Hsz.out
    have hWs := hW.size
    exact ⟨b, off, e, by omega, (hW.cell (p := ⟨b, off + k, none⟩) (by show b < _; omega) (by show ¬ b = _; omega)).trans ((Hpz.out.cell (p := ⟨b, off + k, none⟩) hb).trans hc)⟩
  have HFS : Hid (∀ W, Kept (fun k => k = w.heap.size + 2) wz W → (W.cell? ⟨w.heap.size, 2, none⟩ = some (.slice aS S.length cS) ∧ Dots W (.slice aS S.length cS) S)) := fun W hW => by
    have e0 := (hW.block _ (lt_of_block hbk.out.1) (by omega)).trans hbk.out.1
    exact ⟨cell_of_block e0 2, Row.kept (Row.pure hS Hpz.out) hW (fun k hk e => by have := Row.lt hS k hk; omega)⟩
  have hokS := hid (fun k => seenK_ok S k)
  have Hst := hid (show PlW w.heap.size wz (.slice none 0 0) (.slice none 0 0) (.slice none 0 0) ([], [], []) wz from ⟨⟨hbk.out.2.2, BR3.nil _⟩, BFr.nil _, Kept.refl _ _⟩)
  have hok := hid (fun k => planK5_ok S M G k)
  have Hgl := hid hG.len
  clear hM hG hS
  go_enter Tryz.func10, Tryz.ntmps10
  go_upto_block 0 with fail
  rw [← hwz]
  clear hwz
  go_cut [] from 11 (fun wx => ∃ x0 x1 x2, PlW w.heap.size wz x0 x1 x2 (seenK S (min S.length 12)) wx)
  case first =>
    go_wp2_with fail
    go_loopw [4] (fun i wr => ∃ (k : Nat) (x0 x1 x2 : Value), k ≤ S.length ∧ k ≤ 12 ∧ i = .int .i64 k ∧ PlW w.heap.size wz x0 x1 x2 (seenK S k) wr) (fun i _ => S.length - (RowKit.intOf i).toNat)
    case atStart => exact ⟨0, _, _, _, Nat.zero_le _, Nat.zero_le _, rfl, Hst.out⟩
    case round =>
      obtain ⟨k, x0, x1, x2, hk, hk12, rfl, hP⟩ := hrel
      obtain ⟨g2, hSd⟩ := HFS.out wr hP.k
      have HP := hid hP
      clear hP
      by_cases hlt : k < S.length ∧ k < 12
      · obtain ⟨hlt, h12⟩ := hlt
        have hlt' : (k : Int) < (S.length : Int) := by omega
        have h12' : (k : Int) < 12 := by omega
        obtain ⟨bS, oS, rfl, hbS, z0, z1⟩ := Dots.get hSd hlt
        have Hs := hid (show seenK S (k + 1) = bremove (seenK S k) (pname (S.getD k (0, 0))) from rfl)
        have Hok := hid (hokS.out k)
        generalize seenK S k = g at *
        generalize S.getD k (0, 0) = d at *
        have Hchk := hid (pname_chk d)
        have qn := hid (fun W => name5_any d W)
        obtain ⟨dx, dy⟩ := d
        generalize pname (dx, dy) = nn at *
        obtain ⟨nx, ny⟩ := nn
        dsimp only at z0 z1
        have HP1 := hid (fun W (hW : Pure wr W) => HP.out.pure hW)
        have qc := hid (fun W (hW : Pure wr W) => rremove_plan (nx, ny) (HP1.out W hW).x.r Hok.out (by rw [U64_len]; decide) Hchk.out)
        have HSz := hid (show w.heap.size + 3 ≤ wr.heap.size from by have := Hsz.out; have := HP.out.k.size; omega)
        have hbw : w.heap.size < wr.heap.size := by have := HSz.out; omega
        have hbw2 : w.heap.size + 1 + 1 < wr.heap.size := by have := HSz.out; omega
        unfold BagT dv at qc
        unfold dv at qn
        dsimp only at qc qn
        generalize bremove g (nx, ny) = gR at *
        have Hdr := hid (show Pure wr wr.drew from (Below.refl _ _).drew)
        go_upto_region 5 with fail
        go_cut [5, 6] from 11 to 35 (fun bv ev wx => ∃ (n5 : Nat) (v0 v1 v2 : Value), bv = .pointer (some ⟨n5, 0, none⟩) ∧ ev = .int .i64 0 ∧ BX n5 v0 v1 v2 gR wx ∧ BFr (w.heap.size + 3) v0 v1 v2 ∧ Pure wr wx)
        case first =>
          obtain ⟨c0, c1, c2, -, -, -⟩ := HP.out.cells
          have hS1 : Hid (∀ W, Pure wr W → (W.cell? ⟨w.heap.size + 1 + 1, 0, none⟩ = some x0 ∧ W.cell? ⟨w.heap.size + 1 + 1, 1, none⟩ = some x1 ∧ W.cell? ⟨w.heap.size + 1 + 1, 2, none⟩ = some x2 ∧ W.cell? ⟨w.heap.size, 2, none⟩ = some (.slice (some ⟨bS, oS, none⟩) S.length cS) ∧ W.cell? ⟨bS, oS + k * 2, none⟩ = some (.int .i64 dx) ∧ W.cell? ⟨bS, oS + k * 2 + 1, none⟩ = some (.int .i64 dy) ∧ Pure wr W)) := fun W hW => by
            obtain ⟨c0', c1', c2', -, -, -⟩ := (HP1.out W hW).cells
            exact ⟨c0', c1', c2', (hW.cell (p := ⟨w.heap.size, 2, none⟩) (by show _ < _; omega)).trans g2, (hW.cell (p := ⟨bS, oS + k * 2, none⟩) hbS).trans z0, (hW.cell (p := ⟨bS, oS + k * 2 + 1, none⟩) hbS).trans z1, hW⟩
          have hS2 : Hid (∀ W : World, (W.cell? ⟨w.heap.size + 1 + 1, 0, none⟩ = some x0 ∧ W.cell? ⟨w.heap.size + 1 + 1, 1, none⟩ = some x1 ∧ W.cell? ⟨w.heap.size + 1 + 1, 2, none⟩ = some x2 ∧ W.cell? ⟨w.heap.size, 2, none⟩ = some (.slice (some ⟨bS, oS, none⟩) S.length cS) ∧ W.cell? ⟨bS, oS + k * 2, none⟩ = some (.int .i64 dx) ∧ W.cell? ⟨bS, oS + k * 2 + 1, none⟩ = some (.int .i64 dy) ∧ Pure wr W) → Pure wr W) := fun W h => h.2.2.2.2.2.2
          have hst := hid (hS1.out wr.drew (Below.refl _ _).drew)
          have hst2 := hid (fun o => hS1.out (wr.alloc o).drew ((Below.refl _ _).alloc (Nat.le_refl _) o).drew)
          go_region_held3 (fun W => W.cell? ⟨w.heap.size + 1 + 1, 0, none⟩ = some x0 ∧ W.cell? ⟨w.heap.size + 1 + 1, 1, none⟩ = some x1 ∧ W.cell? ⟨w.heap.size + 1 + 1, 2, none⟩ = some x2 ∧ W.cell? ⟨w.heap.size, 2, none⟩ = some (.slice (some ⟨bS, oS, none⟩) S.length cS) ∧ W.cell? ⟨bS, oS + k * 2, none⟩ = some (.int .i64 dx) ∧ W.cell? ⟨bS, oS + k * 2 + 1, none⟩ = some (.int .i64 dy) ∧ Pure wr W)
            (first | with_reducible exact hst.out | with_reducible assumption | with_reducible exact hst2.out _ | with_reducible exact hS1.out _ (Pure.then_ (hS2.out _ (by assumption)) (by assumption)) | with_reducible exact hS1.out _ (Pure.then_ (hS2.out _ (by assumption)) (pal5 _ _)) | exact hS1.out _ (psetz5 (hS2.out _ (by assumption)) HL.out _ _ _) | exact hS1.out _ (Pure.then_ HPz.out (pal5 _ _)) | exact hS1.out _ (psetz5 (hS2.out _ (by assumption)) HLn.out _ _ _))
            ((first
              | (go_at_call 11; (refine (qn.out _).mono ?_); rintro e w7 ⟨rfl, hp7⟩; have HP7 := hid (Pure.then_ (hS2.out _ (by assumption)) hp7))
              | (go_at_call 22; (refine (qc.out _ (hS2.out _ (by assumption))).mono ?_); rintro e w9 ⟨v0, v1, v2, rfl, h9, hp9, hf9⟩; have HP9 := hid (Pure.then_ (hS2.out _ (by assumption)) hp9); have HF9 := hid (hf9.mono (Nat.le_trans HSz.out (hS2.out _ (by assumption)).size)); have HLn := hid HP9.out.size; have HPz := hid HP9.out; obtain ⟨y0, k0, rfl⟩ := h9.1.shape; obtain ⟨y1, k1, rfl⟩ := h9.2.1.shape; obtain ⟨y2, k2, rfl⟩ := h9.2.2.shape; (first | (have hq := (show Pure (w7.alloc ZB5) w9 from hp9); have HZ := hid (RsB.pure5 (rsb5 w7) hq); have HL := hid (show wr.heap.size ≤ w7.heap.size from HP7.out.size); have HE := hid (boxset5 HZ.out h9 hf9 (by simp))) | (have hq := (show Pure (wr.alloc ZB5).drew w7 from hp7); have HZ0 := hid (RsB.pure5 (show RsB wr.heap.size (wr.alloc ZB5).drew from rsb5 wr) hq); have HZ := hid (RsB.pure5 HZ0.out hp9); have HL := hid (Nat.le_refl wr.heap.size); have HE := hid (boxset5 HZ.out h9 hf9 (lt_of_block HZ0.out))) | (have HE := hid (BX.made h9))); (first | (obtain ⟨zz0, zz1, zz2, zz3, zz4, zz5⟩ := HZ.out.cells) | skip))))
          all_goals
            have H9 := hid HP9.out
            clear qn qc hp7 h9 hp9 hf9 hst hst2 hS1 hS2
            go_wp2
            go_meet
            (case rel => first | exact ⟨_, _, _, _, rfl, rfl, HE.out, HF9.out, psetz5 H9.out HL.out _ _ _⟩ | exact ⟨_, _, _, _, rfl, rfl, HE.out, HF9.out, H9.out.then_ (pal5 _ _)⟩)
        case rest =>
        obtain ⟨n5, v0, v1, v2, rfl, rfl, hX, hf, hpc⟩ := hcut
        have hPl := HP1.out wc hpc
        have HN := hid (hPl.set hX.r hf)
        obtain ⟨y0, k0, rfl⟩ := hX.r.1.shape
        obtain ⟨y1, k1, rfl⟩ := hX.r.2.1.shape
        obtain ⟨y2, k2, rfl⟩ := hX.r.2.2.shape
        obtain ⟨o0, o1, o2, o3, o4, o5⟩ := hPl.cells
        obtain ⟨e0, e1, e2⟩ := hX.cells
        clear hPl hX hf hpc qc qn HP1 HP g2 hSd z0 z1 hbS
        go_wp2
        go_roundw
        case rel => exact ⟨k + 1, _, _, _, by omega, by omega, by go_num, by rw [Hs.out]; exact HN.out⟩
        case measure => simp [RowKit.intOf]; omega
      · have hcase : ¬ (k : Int) < (S.length : Int) ∨ ((k : Int) < (S.length : Int) ∧ ¬ (k : Int) < 12) := by omega
        have hmin : min S.length 12 = k := by omega
        have Hmin := hid hmin
        clear hSd hmin
        rcases hcase with hc1 | ⟨hc1, hc2⟩
        all_goals
          go_wp2
          go_meet
          case rel => exact ⟨_, _, _, by rw [Hmin.out]; exact HP.out⟩
  case rest =>
  obtain ⟨x0, x1, x2, hPS⟩ := hcut
  obtain ⟨wS, hwS⟩ : ∃ x : World, x = wc := ⟨_, rfl⟩
  subst hwS
  have HS2 := hid (show PlW w.heap.size wz x0 x1 x2 (planK5 S M G 0) wS from hPS)
  clear hPS Hst HFS hokS
  go_wp2_with fail
  go_loopw [7] (fun i wr => ∃ (k : Nat) (x0 x1 x2 : Value), k ≤ M.length ∧ k ≤ 12 ∧ i = .int .i64 k ∧ PlW w.heap.size wz x0 x1 x2 (planK5 S M G k) wr) (fun i _ => M.length - (RowKit.intOf i).toNat)
  case atStart => exact ⟨0, _, _, _, Nat.zero_le _, Nat.zero_le _, rfl, HS2.out⟩
  case round =>
    obtain ⟨k, x0, x1, x2, hk, hk12, rfl, hP⟩ := hrel
    obtain ⟨g0, g1, hM, hG, -⟩ := HF.out wr hP.k
    by_cases hlt : k < M.length ∧ k < 12
    · obtain ⟨hlt, h12⟩ := hlt
      have hlt' : (k : Int) < (M.length : Int) := by omega
      have h12' : (k : Int) < 12 := by omega
      obtain ⟨b, off, rfl, hb, z0, z1, z2, z3, z4⟩ := Msgs.get hM hlt
      have Hs := hid (show planK5 S M G (k + 1) = pstep5 (planK5 S M G k) (M.getD k m0) (G.getD k false) from rfl)
      have Hok := hid (hok.out k)
      generalize planK5 S M G k = g at *
      generalize M.getD k m0 = z at *
      obtain ⟨⟨zx, zy⟩, zq, zb, zc⟩ := z
      dsimp only at z0 z1 z2 z3 z4
      have hbz := bs_size zb
      have Hpm := hid (show pmsg5 ((zx, zy), zq, zb, zc) = (pname (zx, zy), 113 :: zq.take 3, zb.take 5, bits .and .i64 zc 255) from rfl)
      have Hmay := hid (pmsg5_may ((zx, zy), zq, zb, zc))
      have Hchk := hid (pname_chk (zx, zy))
      have Hnm := hid (fun W => name5_any (zx, zy) W)
      have Hs3 := hid (fun W => (show Calls Tryz.prog 18 #[.string (bs zq), .int .i64 3] W fun e w' => e = .returned (.string (bs (zq.take 3))) ∧ w' = W from short5_any zq 3 (by decide) W))
      have Hs5 := hid (fun W => (show Calls Tryz.prog 18 #[.string (bs zb), .int .i64 5] W fun e w' => e = .returned (.string (bs (zb.take 5))) ∧ w' = W from short5_any zb 5 (by decide) W))
      unfold dv at Hnm
      dsimp only at Hnm
      have Hpp := hid (show pput g (pmsg5 ((zx, zy), zq, zb, zc)) = if chas g.2.1 g.2.2 (pmsg5 ((zx, zy), zq, zb, zc)).1 then g else bput g (pmsg5 ((zx, zy), zq, zb, zc)) from rfl)
      have Hps := hid (show pstep5 g ((zx, zy), zq, zb, zc) (G.getD k false) = if G.getD k false then bremove (pput g (pmsg5 ((zx, zy), zq, zb, zc))) (pname (zx, zy)) else pput g (pmsg5 ((zx, zy), zq, zb, zc)) from rfl)
      have Hok2 := hid (pput5_ok Hok.out ((zx, zy), zq, zb, zc))
      rw [Hpm.out] at Hpp Hps Hmay Hok2
      generalize pname (zx, zy) = nn at *
      obtain ⟨nx, ny⟩ := nn
      dsimp only at Hpp Hps Hmay Hok2 Hnm Hchk
      clear Hpm
      go_wp2_with fail
      refine (Hnm.out _).mono ?_
      rintro e w1 ⟨rfl, hp1⟩
      have Hm1 := hid ((hp1.block wr.heap.size (by simp)).trans (block_alloc_new wr (.cells #[.int .i64 zx, .int .i64 zy, .string (bs zq), .string (bs zb), .int .i64 zc] 41)))
      have Hp1 := hid (Pure.then_ (pal5 wr _) hp1)
      clear hp1
      have hcz : (bs (zq.take 3)).size ≤ 3 := by rw [bs_size, List.length_take]; omega
      have hns : ¬ 9223372036854775807 < ByteArray.size ⟨#[113]⟩ + (bs (zq.take 3)).size := by have : ByteArray.size ⟨#[113]⟩ = 1 := rfl; omega
      have hns2 : ¬ 9223372036854775807 < 1 + (bs (zq.take 3)).size := by omega
      generalize hcq : zq.take 3 = cq at *
      generalize hqb : zb.take 5 = qb at *
      clear hcq hqb z0 z1 z2 z3 z4 Hnm
      have mm0 := cell_of_block Hm1.out 0
      have mm1 := cell_of_block Hm1.out 1
      have mm2 := cell_of_block Hm1.out 2
      have mm3 := cell_of_block Hm1.out 3
      have mm4 := cell_of_block Hm1.out 4
      have mf0 := free_of_block Hm1.out 0
      have mf1 := free_of_block Hm1.out 1
      have mf2 := free_of_block Hm1.out 2
      have mf3 := free_of_block Hm1.out 3
      have mf4 := free_of_block Hm1.out 4
      simp only [List.getElem?_toArray, List.getElem?_cons_succ, List.getElem?_cons_zero] at mm0 mm1 mm2 mm3 mm4
      go_wp2_with fail
      refine (Hs3.out _).mono ?_
      rintro e w2 ⟨rfl, rfl⟩
      go_wp2_with fail
      refine (Hs5.out _).mono ?_
      rintro e w2 ⟨rfl, rfl⟩
      go_upto_region 16 with fail
      rw [catq cq]
      obtain ⟨wb, hwb⟩ : ∃ x : World, x = ((((w1.setCell ⟨wr.heap.size, 0, none⟩ (.int .i64 nx)).setCell ⟨wr.heap.size, 1, none⟩ (.int .i64 ny)).setCell ⟨wr.heap.size, 2, none⟩ (.string (bs (113 :: cq)))).setCell ⟨wr.heap.size, 3, none⟩ (.string (bs qb))).setCell ⟨wr.heap.size, 4, none⟩ (.int .i64 (bits .and .i64 zc 255)) := ⟨_, rfl⟩
      rw [← hwb]
      have hpb : Pure wr wb := by rw [hwb]; exact pset1 (pset1 (pset1 (pset1 (pset1 Hp1.out (Nat.le_refl _) _) (Nat.le_refl _) _) (Nat.le_refl _) _) (Nat.le_refl _) _) (Nat.le_refl _) _
      have HPb := hid (hP.pure hpb)
      have Hmb := hid (show wb.heap[wr.heap.size]? = some (.cells #[.int .i64 nx, .int .i64 ny, .string (bs (113 :: cq)), .string (bs qb), .int .i64 (bits .and .i64 zc 255)] 41 (0, 0)) from by rw [hwb]; exact set5m Hm1.out _ _ _ _ _)
      clear hwb hpb mm0 mm1 mm2 mm3 mm4 mf0 mf1 mf2 mf3 mf4 hns hns2 hcz hbz Hs3 Hs5 Hm1 Hp1
      generalize 113 :: cq = qq at *
      generalize bits .and .i64 zc 255 = cc at *
      obtain ⟨y0, k0, rfl⟩ := hP.x.r.1.shape
      obtain ⟨y1, k1, rfl⟩ := hP.x.r.2.1.shape
      obtain ⟨y2, k2, rfl⟩ := hP.x.r.2.2.shape
      have Hwr := hid hP.k.size
      obtain ⟨c0, c1, c2, -, -, -⟩ := HPb.out.cells
      have m0' := cell_of_block Hmb.out 0
      have m1 := cell_of_block Hmb.out 1
      have m2 := cell_of_block Hmb.out 2
      have m3 := cell_of_block Hmb.out 3
      have m4 := cell_of_block Hmb.out 4
      simp only [List.getElem?_toArray, List.getElem?_cons_succ, List.getElem?_cons_zero] at m0' m1 m2 m3 m4
      rcases Bool.eq_false_or_eq_true (chas g.2.1 g.2.2 (nx, ny)) with hs | hs
      case' inl =>
        rw [if_pos hs] at Hpp
        have Hc := hid (rput_seen _ _ _ g ((nx, ny), qq, qb, cc) wb HPb.out.x.r Hmay.out hs)
        unfold BagT mv at Hc
        dsimp only at Hc
        go_wp2_with fail
        refine Hc.out.mono ?_
        rintro e w2 ⟨v0, v1, v2, rfl, hr2, hp2, hf2⟩
        obtain ⟨q0, j0, rfl⟩ : ∃ a c, v0 = .slice a 0 c := hr2.1.shape
        obtain ⟨q1, j1, rfl⟩ : ∃ a c, v1 = .slice a 0 c := hr2.2.1.shape
        obtain ⟨q2, j2, rfl⟩ : ∃ a c, v2 = .slice a 0 c := hr2.2.2.shape
        obtain ⟨w3, hw3⟩ : ∃ w3, w3 = w2.alloc (.cells #[.slice q0 0 j0, .slice q1 0 j1, .slice q2 0 j2] 33) := ⟨_, rfl⟩
        have hp3 : Pure w2 w3 := by rw [hw3]; exact (Below.refl _ _).alloc (Nat.le_refl _) _
        have HQ := hid (HPb.out.pure (hp2.then_ hp3))
        have HmQ := hid (((hp2.then_ hp3).block _ (lt_of_block Hmb.out)).trans Hmb.out)
        rw [← Hpp.out] at HQ
        clear c0 c1 c2 m0' m1 m2 m3 m4 hr2 hp2 hf2 hp3 Hc
        go_upto_region 19 with fail
        rw [← hw3]
        clear hw3
      case' inr =>
        rw [if_neg (by rw [hs]; simp)] at Hpp
        have Hc := hid (rput_plan ((nx, ny), qq, qb, cc) HPb.out.x.r Hok.out (by rw [U64_len]; decide) Hmay.out hs)
        have hwz3 := Hwr.out
        have hbs := lt_of_block Hmb.out
        have Hbs := hid (show w.heap.size + 3 ≤ wb.heap.size from by have := Hsz.out; omega)
        unfold BagT mv at Hc
        dsimp only at Hc
        generalize hpg : bput g ((nx, ny), qq, qb, cc) = pg at *
        clear hwz3 hbs hpg
        go_wp2_with fail
        refine Hc.out.mono ?_
        rintro e w2 ⟨v0, v1, v2, rfl, hr2, hp2, hf2⟩
        obtain ⟨q0, j0, rfl⟩ := hr2.1.shape
        obtain ⟨q1, j1, rfl⟩ := hr2.2.1.shape
        obtain ⟨q2, j2, rfl⟩ := hr2.2.2.shape
        have hp3 : Pure w2 (w2.alloc (.cells #[.slice q0 pg.1.length j0, .slice q1 pg.2.1.length j1, .slice q2 pg.2.2.length j2] 33)) := (Below.refl _ _).alloc (Nat.le_refl _) _
        have hPw2 := HPb.out.pure (hp2.then_ hp3)
        obtain ⟨w3, hw3⟩ : ∃ w3, w3 = (((w2.alloc (.cells #[.slice q0 pg.1.length j0, .slice q1 pg.2.1.length j1, .slice q2 pg.2.2.length j2] 33)).setCell ⟨w.heap.size + 1 + 1, 0, none⟩ (.slice q0 pg.1.length j0)).setCell ⟨w.heap.size + 1 + 1, 1, none⟩ (.slice q1 pg.2.1.length j1)).setCell ⟨w.heap.size + 1 + 1, 2, none⟩ (.slice q2 pg.2.2.length j2) := ⟨_, rfl⟩
        have HQ := hid (hPw2.set (hr2.pure hp3) (hf2.mono Hbs.out))
        have HmQ := hid (((kept3 _ (w.heap.size + 2) (.slice q0 pg.1.length j0) (.slice q1 pg.2.1.length j1) (.slice q2 pg.2.2.length j2)).block wr.heap.size (by have := ((hp2.then_ hp3).size); have := lt_of_block Hmb.out; omega) (by have := Hwr.out; have := Hsz.out; omega)).trans (((hp2.then_ hp3).block _ (lt_of_block Hmb.out)).trans Hmb.out))
        obtain ⟨o0, o1, o2, o3, o4, o5⟩ := hPw2.cells
        rw [← hw3] at HQ
        rw [show w.heap.size + 2 = w.heap.size + 1 + 1 from rfl, ← hw3] at HmQ
        rw [← Hpp.out] at HQ
        clear c0 c1 c2 m0' m1 m2 m3 m4 hr2 hp2 hf2 hp3 Hc hPw2
        go_upto_region 19 with fail
        rw [← hw3]
        clear hw3 o0 o1 o2 o3 o4 o5
      all_goals
        obtain ⟨t0, t1, t2, HT⟩ : ∃ t0 t1 t2, Hid (PlW w.heap.size wz t0 t1 t2 (pput g ((nx, ny), qq, qb, cc)) w3) := ⟨_, _, _, HQ⟩
        clear HQ HPb Hmb hs Hpp
        generalize hpp : pput g ((nx, ny), qq, qb, cc) = pg2 at *
        clear hpp
        obtain ⟨h0, h1, -, hGq, -⟩ := HF.out w3 HT.out.k
        by_cases hkg : k < lg
        · obtain ⟨bg, og, rfl, hbg, hgc⟩ := hGq.cell k hkg
          have hkg' : (k : Int) < (lg : Int) := by omega
          clear hGq hbg
          cases hgd : G.getD k false with
          | true =>
            rw [hgd] at hgc Hs Hps
            rw [if_pos rfl] at Hps
            obtain ⟨o0, o1, o2, -, -, -⟩ := HT.out.cells
            have m0' := cell_of_block HmQ.out 0
            have m1 := cell_of_block HmQ.out 1
            simp only [List.getElem?_toArray, List.getElem?_cons_succ, List.getElem?_cons_zero] at m0' m1
            have Hc := hid (rremove_plan (nx, ny) HT.out.x.r Hok2.out (by rw [U64_len]; decide) Hchk.out)
            have hks := HT.out.k.size
            have Hbs := hid (show w.heap.size + 3 ≤ w3.heap.size from by have := Hsz.out; omega)
            obtain ⟨y0', k0', rfl⟩ := HT.out.x.r.1.shape
            obtain ⟨y1', k1', rfl⟩ := HT.out.x.r.2.1.shape
            obtain ⟨y2', k2', rfl⟩ := HT.out.x.r.2.2.shape
            unfold BagT dv at Hc
            dsimp only at Hc
            generalize hbr : bremove pg2 (nx, ny) = rg at *
            clear hbr hks
            go_wp2_with fail
            refine Hc.out.mono ?_
            rintro e w4 ⟨v0, v1, v2, rfl, hr4, hp4, hf4⟩
            obtain ⟨q0, j0, rfl⟩ := hr4.1.shape
            obtain ⟨q1, j1, rfl⟩ := hr4.2.1.shape
            obtain ⟨q2, j2, rfl⟩ := hr4.2.2.shape
            have hPw4 := HT.out.pure hp4
            have HR := hid (hPw4.set hr4 (hf4.mono Hbs.out))
            clear o0 o1 o2 m0' m1 h0 h1 hgc
            obtain ⟨o0, o1, o2, o3, o4, o5⟩ := hPw4.cells
            clear hr4 hp4 hf4 hPw4 Hc
            go_wp2
            go_roundw
            (case rel => exact ⟨k + 1, _, _, _, by omega, by omega, by go_num, by rw [Hs.out, Hps.out]; exact HR.out⟩)
            (case measure => simp [RowKit.intOf]; omega)
          | false =>
            rw [hgd] at hgc Hs Hps
            rw [if_neg (by simp)] at Hps
            go_wp2
            go_roundw
            (case rel => exact ⟨k + 1, _, _, _, by omega, by omega, by go_num, by rw [Hs.out, Hps.out]; exact HT.out⟩)
            (case measure => simp [RowKit.intOf]; omega)
        · have hkg' : ¬ (k : Int) < (lg : Int) := by omega
          have hgd : G.getD k false = false := by
            have := Hgl.out
            simp [List.getD, show G.length ≤ k by omega]
          rw [hgd] at Hs Hps
          rw [if_neg (by simp)] at Hps
          clear hGq
          go_wp2
          go_roundw
          (case rel => exact ⟨k + 1, _, _, _, by omega, by omega, by go_num, by rw [Hs.out, Hps.out]; exact HT.out⟩)
          (case measure => simp [RowKit.intOf]; omega)
    · obtain ⟨c0, c1, c2, -, -, -⟩ := hP.cells
      have hmin : min M.length 12 = k := by omega
      have Hpl := hid (show planB5 S M G = planK5 S M G k from by unfold planB5; rw [hmin])
      obtain ⟨-, -, -, -, hR⟩ := HF.out wr hP.k
      obtain ⟨r0, r1, r2, r3, r4, r5⟩ := hR.cells
      have hpw : Pure w wr := (Kept.trans (Pure.kept (S := fun k => w.heap.size ≤ k) Hpz.out) (hP.k.mono (fun k _ e => (show w.heap.size ≤ k by omega)))).below (Nat.le_refl _) (fun k hk e => by omega)
      obtain ⟨t0, t1, t2, hfin⟩ := bag_ret (w := w) hR (by omega) hpw hP.x.r (hP.f.mono (by omega))
      rw [← Hpl.out] at hfin
      have T0 := hid t0
      have T1 := hid t1
      have T2 := hid t2
      have Hfin := hid hfin
      obtain ⟨q0, j0, rfl⟩ := hP.x.r.1.shape
      obtain ⟨q1, j1, rfl⟩ := hP.x.r.2.1.shape
      obtain ⟨q2, j2, rfl⟩ := hP.x.r.2.2.shape
      clear t0 t1 t2 hfin hpw hP hR hM hG
      have hcase : ¬ (k : Int) < (M.length : Int) ∨ ((k : Int) < (M.length : Int) ∧ ¬ (k : Int) < 12) := by omega
      rcases hcase with hc1 | ⟨hc1, hc2⟩
      all_goals
        go_wp2
        exact bodyPost_ret (v := .agg #[.slice q0 (planK5 S M G k).1.length j0, .slice q1 (planK5 S M G k).2.1.length j1, .slice q2 (planK5 S M G k).2.2.length j2]) (by simp [results, Tryz.results10, go_sem, T0.out, T1.out, T2.out]) rfl Hfin.out
end Go.Proofs.YtbcbmnifbflmaaaGreat

