/- ref01's Same: two lists of numbers. ref04: Upto, Next, Part, Covers. -/
import Derived.Test.YtdlpnhfgjficgaaGreatHas
import Derived.Test.YtdlpnhfgjficgaaGreatMCm
namespace Go.Proofs.YtdlpnhfgjficgaaGreat
open Go.RowKit Go.Maps



/-- ref01's Same. -/
theorem same_short {l k : List Int} (h : l.length ≠ k.length) : decide (l = k) = false := by simp; exact fun e => h (by rw [e])
theorem same_take {l k : List Int} {i : Nat} (h : l.take i = k.take i) (h1 : i < l.length) (h2 : i < k.length) (e : l.getD i 0 = k.getD i 0) : l.take (i + 1) = k.take (i + 1) := by
  rw [take_succ_get l i h1, take_succ_get k i h2, h, e]
theorem same_full {l k : List Int} (h : l.length = k.length) (e : l.take l.length = k.take l.length) : decide (l = k) = true := by rw [List.take_length, h, List.take_length] at e; simp [e]
theorem same_not {l k : List Int} {i : Nat} (e : ¬ l.getD i 0 = k.getD i 0) : decide (l = k) = false := by simp; exact fun h => e (by rw [h])

end Go.Proofs.YtdlpnhfgjficgaaGreat

namespace Go.Proofs.YtdlpnhfgjficgaaGreat
open Go.RowKit Go.Maps

/-- A context that was handed back: its rows, in memory of the call's own. -/
def CtxF (w : World) (B C : List Dot) (e : Ending) (w' : World) : Prop :=
  ∃ v0 v1, e = .returned (.agg #[v0, v1]) ∧ Dots w' v0 B ∧ Dots w' v1 C ∧ Pure w w' ∧ (∀ k, v0.rb = some k → w.heap.size ≤ k) ∧ (∀ k, v1.rb = some k → w.heap.size ≤ k)

/-- A context is laid into the variable of the result, and handed back. -/
theorem ctx_ret {w w4 : World} {s : Nat} {x y v0 v1 : Value} {B C : List Dot} (hres : w4.heap[s]? = some (.cells #[x, y] 32 (0, 0))) (hs : w.heap.size ≤ s) (hp : Pure w w4) (hd0 : Dots w4 v0 B) (hd1 : Dots w4 v1 C)
    (h0 : ∀ k, v0.rb = some k → w.heap.size ≤ k ∧ k ≠ s) (h1 : ∀ k, v1.rb = some k → w.heap.size ≤ k ∧ k ≠ s) :
    ((w4.setCell ⟨s, 0, none⟩ v0).setCell ⟨s, 1, none⟩ v1).cell? ⟨s, 0, none⟩ = some v0 ∧ ((w4.setCell ⟨s, 0, none⟩ v0).setCell ⟨s, 1, none⟩ v1).cell? ⟨s, 1, none⟩ = some v1 ∧ CtxF w B C (.returned (.agg #[v0, v1])) ((w4.setCell ⟨s, 0, none⟩ v0).setCell ⟨s, 1, none⟩ v1) := by
  have hb := block_setCell (block_setCell hres 0 v0) 1 v1
  have hkf : Kept (fun k => k = s) w4 ((w4.setCell ⟨s, 0, none⟩ v0).setCell ⟨s, 1, none⟩ v1) := (kept_set w4 _ 0 _).trans (kept_set _ _ 1 _)
  have q : Kept (fun k => w.heap.size ≤ k) w ((w4.setCell ⟨s, 0, none⟩ v0).setCell ⟨s, 1, none⟩ v1) := hp.kept.trans (hkf.mono (fun k _ e => by omega))
  refine ⟨by rw [cell_of_block hb 0]; simp, by rw [cell_of_block hb 1]; simp, _, _, rfl, Row.kept hd0 hkf (fun k hk e => (h0 k hk).2 e), Row.kept hd1 hkf (fun k hk e => (h1 k hk).2 e), q.below (Nat.le_refl _) (fun k hk e => by omega), fun k hk => (h0 k hk).1, fun k hk => (h1 k hk).1⟩

def nstep (node n : Int) (d : Dot) : Int := if d.1 = node ∧ n < d.2 then d.2 else n
theorem nstep_hit {node n x y : Int} (h : x = node) (h2 : n < y) : nstep node n (x, y) = y := by unfold nstep; exact if_pos ⟨h, h2⟩
theorem nstep_miss {node n x y : Int} (h : ¬ (x = node ∧ n < y)) : nstep node n (x, y) = n := by unfold nstep; exact if_neg h
/-- The greatest number that was seen of a node. -/
def cnx (B C : List Dot) (node : Int) : Int := C.foldl (nstep node) (cbase B node)
theorem nfold_take (node n : Int) (C : List Dot) (k : Nat) (h : k < C.length) : (C.take (k + 1)).foldl (nstep node) n = nstep node ((C.take k).foldl (nstep node) n) (C.getD k (0, 0)) := by
  rw [take_succ_d C k h, List.foldl_append]; rfl
theorem nfold_bd (node : Int) : ∀ (C : List Dot) (n : Int), 0 ≤ n → n ≤ 1152921504606846976 → (∀ d ∈ C, d.2 ≤ 1152921504606846976) → 0 ≤ C.foldl (nstep node) n ∧ C.foldl (nstep node) n ≤ 1152921504606846976
  | [], n, h0, h1, _ => ⟨h0, h1⟩
  | d :: C, n, h0, h1, h => by
    rw [List.foldl_cons]
    have hd := h d (by simp)
    refine nfold_bd node C _ ?_ ?_ (fun x hx => h x (List.mem_cons_of_mem _ hx)) <;> unfold nstep <;> split <;> omega

theorem own_rb_ge {w : World} {base e sz n g : Nat} {v : Value} {xs : List Value} (h : w.ownsRow base e sz v n xs) (hg : g + 2 ≤ base) : ∀ k, v.rb = some k → g ≤ k ∧ k ≠ g + 1 := fun k hk => by
  have := (h.lt k (rb_own hk)).1
  omega
/-- What lies in the variable of the result, while nothing was stored there. -/
def RsC (s : Nat) (W : World) : Prop := W.heap[s]? = some (.cells #[.slice none 0 0, .slice none 0 0] 32 (0, 0))
theorem RsC.go {s : Nat} {W W' : World} (h : Hid (RsC s W)) (hp : Pure W W') : Hid (RsC s W') ∧ W'.cell? ⟨s, 0, none⟩ = some (.slice none 0 0) ∧ W'.cell? ⟨s, 1, none⟩ = some (.slice none 0 0) ∧ W'.frozen? ⟨s, 0, none⟩ = false ∧ W'.frozen? ⟨s, 1, none⟩ = false := by
  have e : RsC s W' := (hp.block _ (lt_of_block h.out)).trans h.out
  exact ⟨e, cell_of_block e 0, cell_of_block e 1, free_of_block e 0, free_of_block e 1⟩

def ccov (aB aC bB bC : List Dot) : Bool := decide ((cjoin aB aC bB bC).1 = aB) && decide ((cjoin aB aC bB bC).2 = aC)
/-- Two contexts in boxes. -/
theorem box2 (w : World) (a0 a1 b0 b1 : Value) : ∃ wz, wz = (w.alloc (.cells #[a0, a1] 32)).alloc (.cells #[b0, b1] 32) ∧ Hid (Pure w wz) ∧ Hid (∀ W, Pure wz W → (W.cell? ⟨w.heap.size, 0, none⟩ = some a0 ∧ W.cell? ⟨w.heap.size, 1, none⟩ = some a1 ∧ W.cell? ⟨w.heap.size + 1, 0, none⟩ = some b0 ∧ W.cell? ⟨w.heap.size + 1, 1, none⟩ = some b1 ∧ Pure wz W)) := by
  refine ⟨_, rfl, ((Below.refl _ _).alloc (Nat.le_refl _) _).alloc (by simp) _, fun W hW => ?_⟩
  have e0 := (hW.block _ (by simp; omega)).trans (block_alloc_old (block_alloc_new w (.cells #[a0, a1] 32)) (.cells #[b0, b1] 32))
  have h1 : ((w.alloc (.cells #[a0, a1] 32)).alloc (.cells #[b0, b1] 32)).heap[w.heap.size + 1]? = some (.cells #[b0, b1] 32 (0, 0)) := by
    have := block_alloc_new (w.alloc (.cells #[a0, a1] 32)) (.cells #[b0, b1] 32)
    simpa using this
  have e1 := (hW.block _ (by simp)).trans h1
  exact ⟨cell_of_block e0 0, cell_of_block e0 1, cell_of_block e1 0, cell_of_block e1 1, hW⟩
set_option maxRecDepth 8000 in
set_option maxHeartbeats 2000000 in
theorem rcovers_any (va0 va1 vb0 vb1 : Value) (aB aC bB bC : List Dot) (w : World) (h1 : Dots w va0 aB) (h2 : Dots w va1 aC) (h3 : Dots w vb0 bB) (h4 : Dots w vb1 bC) (hl : aB.length + aC.length + bB.length + bC.length ≤ 1000) (hb1 : ∀ d ∈ aB, 0 ≤ d.2 ∧ d.2 ≤ 1152921504606846976) (hb2 : ∀ d ∈ bB, 0 ≤ d.2 ∧ d.2 ≤ 1152921504606846976) :
    Calls Tryz.prog 16 #[.agg #[va0, va1], .agg #[vb0, vb1]] w fun e w' => e = .returned (.bool (ccov aB aC bB bC)) ∧ Pure w w' := by
  obtain ⟨wz, hwz, Hpz, hS⟩ := box2 w va0 va1 vb0 vb1
  have hst := hid (hS.out wz.drew (Below.refl _ _).drew)
  have hS2 : Hid (∀ W : World, (W.cell? ⟨w.heap.size, 0, none⟩ = some va0 ∧ W.cell? ⟨w.heap.size, 1, none⟩ = some va1 ∧ W.cell? ⟨w.heap.size + 1, 0, none⟩ = some vb0 ∧ W.cell? ⟨w.heap.size + 1, 1, none⟩ = some vb1 ∧ Pure wz W) → Pure wz W) := fun W h => h.2.2.2.2
  have hj := hid (fun W (hW : Pure wz W) => rjoin_any va0 va1 vb0 vb1 aB aC bB bC W (Row.pure h1 (Hpz.out.then_ hW)) (Row.pure h2 (Hpz.out.then_ hW)) (Row.pure h3 (Hpz.out.then_ hW)) (Row.pure h4 (Hpz.out.then_ hW)) hl hb1 hb2)
  have hs := hid (fun W v0 v1 (hW : Pure wz W) (k0 : Dots W v0 (cjoin aB aC bB bC).1) (k1 : Dots W v1 (cjoin aB aC bB bC).2) => rcsame_any v0 v1 va0 va1 (cjoin aB aC bB bC).1 (cjoin aB aC bB bC).2 aB aC W k0 k1 (Row.pure h1 (Hpz.out.then_ hW)) (Row.pure h2 (Hpz.out.then_ hW)))
  clear h1 h2 h3 h4 hb1 hb2
  unfold ccov
  generalize hJ : cjoin aB aC bB bC = J at *
  clear hJ
  go_enter Tryz.func16, Tryz.ntmps16
  go_wp2_with fail
  rw [← hwz]
  clear hwz
  go_region_held3 (fun W => W.cell? ⟨w.heap.size, 0, none⟩ = some va0 ∧ W.cell? ⟨w.heap.size, 1, none⟩ = some va1 ∧ W.cell? ⟨w.heap.size + 1, 0, none⟩ = some vb0 ∧ W.cell? ⟨w.heap.size + 1, 1, none⟩ = some vb1 ∧ Pure wz W)
    (first | with_reducible exact hst.out | with_reducible exact hS.out _ (Pure.then_ (hS2.out _ (by assumption)) (by assumption)))
    ((first | (go_at_call 50; (with_reducible refine (hj.out _ (hS2.out _ (by assumption))).mono ?_); rintro e w7 ⟨v7, u7, rfl, hd7, hd7', hp7, _, _⟩) | (go_at_call 49; (with_reducible refine (hs.out _ _ _ (hS2.out _ (by assumption)) hd7 hd7').mono ?_); rintro e w8 ⟨rfl, hp8⟩)))
  have hx := hid (Hpz.out.then_ (hS2.out w8 (by assumption)))
  clear hd7 hd7' hp7 hp8 hst hS hS2 hj hs
  go_wp2
  go_ret
  exact ⟨rfl, hx.out⟩
end Go.Proofs.YtdlpnhfgjficgaaGreat

