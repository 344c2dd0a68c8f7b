/- law04: what the laws' walks share; CtxTells. -/
import Derived.Test.YtimcjkimehhgcaaQM
namespace Go.Proofs.Ytimcjkimehhgcaa
open Go.RowKit Go.Maps Go.Shelf Go.Sort

/-- A context in a box (block n): its two rows' values, and what they read as. -/
structure CB (n : Nat) (v0 v1 : Value) (X : List Dot × List Dot) (W : World) : Prop where
  b : W.heap[n]? = some (.cells #[v0, v1] 24 (0, 0))
  r0 : Dots W v0 X.1
  r1 : Dots W v1 X.2
theorem CB.pure {n : Nat} {v0 v1 : Value} {X : List Dot × List Dot} {W W' : World} (h : CB n v0 v1 X W) (hp : Pure W W') : CB n v0 v1 X W' :=
  ⟨(hp.block _ (lt_of_block h.b)).trans h.b, Row.pure h.r0 hp, Row.pure h.r1 hp⟩
theorem CB.cells {n : Nat} {v0 v1 : Value} {X : List Dot × List Dot} {W : World} (h : CB n v0 v1 X W) : W.cell? ⟨n, 0, none⟩ = some v0 ∧ W.cell? ⟨n, 1, none⟩ = some v1 := ⟨cell_of_block h.b 0, cell_of_block h.b 1⟩
theorem CB.made {w : World} {v0 v1 : Value} {X : List Dot × List Dot} (h0 : Dots w v0 X.1) (h1 : Dots w v1 X.2) : CB w.heap.size v0 v1 X (w.alloc (.cells #[v0, v1] 24)) :=
  ⟨block_alloc_new _ _, Row.pure h0 ((Below.refl _ _).alloc (Nat.le_refl _) _), Row.pure h1 ((Below.refl _ _).alloc (Nat.le_refl _) _)⟩
/-- A name in a box. -/
def DB (n : Nat) (d : Dot) (W : World) : Prop := W.heap[n]? = some (.cells #[.int .i64 d.1, .int .i64 d.2] 30 (0, 0))
theorem DB.pure {n : Nat} {d : Dot} {W W' : World} (h : DB n d W) (hp : Pure W W') : DB n d W' := (hp.block _ (lt_of_block h)).trans h
theorem DB.cells {n : Nat} {d : Dot} {W : World} (h : DB n d W) : W.cell? ⟨n, 0, none⟩ = some (.int .i64 d.1) ∧ W.cell? ⟨n, 1, none⟩ = some (.int .i64 d.2) := ⟨cell_of_block h 0, cell_of_block h 1⟩
/-- A context that may be, and is small. -/
structure Sml (m : Nat) (X : List Dot × List Dot) : Prop where
  ok : COk X.1 X.2
  l0 : X.1.length ≤ m
  l1 : X.2.length ≤ m
theorem Sml.made (B C : List Dot) : Sml 24 (madeC B C) := ⟨(madeC_ok B C).1, (madeC_ok B C).2.1, by have := (madeC_ok B C).2.2; omega⟩
theorem Sml.bd {m : Nat} {X : List Dot × List Dot} (h : Sml m X) : ∀ d ∈ X.1, 0 ≤ d.2 ∧ d.2 ≤ 1152921504606846976 := fun d hd => by have := h.ok.bok d hd; unfold dok at this; omega
theorem Sml.bc {m : Nat} {X : List Dot × List Dot} (h : Sml m X) : ∀ d ∈ X.2, d.2 ≤ 1152921504606846976 := fun d hd => by have := h.ok.cok d hd; unfold dok at this; omega
theorem Sml.j {m : Nat} {X : List Dot × List Dot} (h : Sml m X) : JOk X.1 X.2 := JOk.of_ok h.ok
def Jn (X Y : List Dot × List Dot) : List Dot × List Dot := cjoin X.1 X.2 Y.1 Y.2
theorem Jn.ok {X Y : List Dot × List Dot} (hx : COk X.1 X.2) (hy : COk Y.1 Y.2) : COk (Jn X Y).1 (Jn X Y).2 := (cjoin_ok hx.wk hy.wk).1
theorem Jn.has {X Y : List Dot × List Dot} (hx : COk X.1 X.2) (hy : COk Y.1 Y.2) (d : Dot) : chas (Jn X Y).1 (Jn X Y).2 d = (chas X.1 X.2 d || chas Y.1 Y.2 d) := (cjoin_ok hx.wk hy.wk).2 d
theorem Sml.jn {m n : Nat} {X Y : List Dot × List Dot} (hx : Sml m X) (hy : Sml n Y) : Sml (2 * m + 2 * n) (Jn X Y) := by
  have hl := cjoin_len hx.ok.wk hy.ok.wk
  have := hx.l0; have := hx.l1; have := hy.l0; have := hy.l1
  exact ⟨Jn.ok hx.ok hy.ok, by unfold Jn; omega, by unfold Jn; omega⟩
theorem ctx_eq {X Y : List Dot × List Dot} (hx : COk X.1 X.2) (hy : COk Y.1 Y.2) (h : ∀ d, chas X.1 X.2 d = chas Y.1 Y.2 d) : X = Y := by
  obtain ⟨e0, e1⟩ := canon_eq hx hy h
  exact Prod.ext e0 e1
theorem Jn.self {X : List Dot × List Dot} (hx : COk X.1 X.2) : Jn X X = X := ctx_eq (Jn.ok hx hx) hx (fun d => by rw [Jn.has hx hx, Bool.or_self])
theorem Jn.comm {X Y : List Dot × List Dot} (hx : COk X.1 X.2) (hy : COk Y.1 Y.2) : Jn X Y = Jn Y X := ctx_eq (Jn.ok hx hy) (Jn.ok hy hx) (fun d => by rw [Jn.has hx hy, Jn.has hy hx, Bool.or_comm])
theorem Jn.assoc {X Y Z : List Dot × List Dot} (hx : COk X.1 X.2) (hy : COk Y.1 Y.2) (hz : COk Z.1 Z.2) : Jn (Jn X Y) Z = Jn X (Jn Y Z) :=
  ctx_eq (Jn.ok (Jn.ok hx hy) hz) (Jn.ok hx (Jn.ok hy hz)) (fun d => by rw [Jn.has (Jn.ok hx hy) hz, Jn.has hx hy, Jn.has hx (Jn.ok hy hz), Jn.has hy hz, Bool.or_assoc])
theorem ccov_eq (X Y : List Dot × List Dot) : ccov X.1 X.2 Y.1 Y.2 = decide (Jn X Y = X) := by
  unfold ccov Jn
  by_cases h : cjoin X.1 X.2 Y.1 Y.2 = X
  · rw [h]; simp
  · rw [decide_eq_false h, Bool.and_eq_false_iff]
    by_cases h0 : (cjoin X.1 X.2 Y.1 Y.2).1 = X.1
    · right; rw [decide_eq_false]; exact fun h1 => h (Prod.ext h0 h1)
    · left; exact decide_eq_false h0
theorem ccov_self {X : List Dot × List Dot} (hx : COk X.1 X.2) : ccov X.1 X.2 X.1 X.2 = true := by rw [ccov_eq, Jn.self hx]; simp
/-- The boxes that a law of two contexts begins with, and what follows: awake, both made. -/
structure TwoM (s nx ny : Nat) (x0 x1 y0 y1 : Value) (X Y : List Dot × List Dot) (w W : World) : Prop where
  x : CB nx x0 x1 X W
  y : CB ny y0 y1 Y W
  p : Pure w W
  gx : s ≤ nx
  gy : s ≤ ny
theorem TwoM.pure {s nx ny : Nat} {x0 x1 y0 y1 : Value} {X Y : List Dot × List Dot} {w W W' : World} (h : TwoM s nx ny x0 x1 y0 y1 X Y w W) (hp : Pure W W') : TwoM s nx ny x0 x1 y0 y1 X Y w W' := ⟨h.x.pure hp, h.y.pure hp, h.p.then_ hp, h.gx, h.gy⟩
end Go.Proofs.Ytimcjkimehhgcaa
