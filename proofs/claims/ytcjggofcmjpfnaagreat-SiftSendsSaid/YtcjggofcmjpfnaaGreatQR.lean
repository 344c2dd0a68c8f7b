/- ref04: Upto, Next, Part, Covers. -/
import Derived.Test.YtcjggofcmjpfnaaGreatQS
import Derived.Test.YtcjggofcmjpfnaaGreatMCm
namespace Go.Proofs.YtcjggofcmjpfnaaGreat
open Go.RowKit Go.Maps

/-- A context that was handed back: its rows, in memory of the call's own. -/
def CtxF (w : World) (B C : List Dot) (e : Ending) (w' : World) : Prop :=
  ∃ v0 v1, e = .returned (.agg #[v0, v1]) ∧ Dots w' v0 B ∧ Dots w' v1 C ∧ Pure w w' ∧ (∀ k, v0.rb = some k → w.heap.size ≤ k) ∧ (∀ k, v1.rb = some k → w.heap.size ≤ k)

/-- A context is laid into the variable of the result, and handed back. -/
theorem ctx_ret {w w4 : World} {s : Nat} {x y v0 v1 : Value} {B C : List Dot} (hres : w4.heap[s]? = some (.cells #[x, y] 29 (0, 0))) (hs : w.heap.size ≤ s) (hp : Pure w w4) (hd0 : Dots w4 v0 B) (hd1 : Dots w4 v1 C)
    (h0 : ∀ k, v0.rb = some k → w.heap.size ≤ k ∧ k ≠ s) (h1 : ∀ k, v1.rb = some k → w.heap.size ≤ k ∧ k ≠ s) :
    ((w4.setCell ⟨s, 0, none⟩ v0).setCell ⟨s, 1, none⟩ v1).cell? ⟨s, 0, none⟩ = some v0 ∧ ((w4.setCell ⟨s, 0, none⟩ v0).setCell ⟨s, 1, none⟩ v1).cell? ⟨s, 1, none⟩ = some v1 ∧ CtxF w B C (.returned (.agg #[v0, v1])) ((w4.setCell ⟨s, 0, none⟩ v0).setCell ⟨s, 1, none⟩ v1) := by
  have hb := block_setCell (block_setCell hres 0 v0) 1 v1
  have hkf : Kept (fun k => k = s) w4 ((w4.setCell ⟨s, 0, none⟩ v0).setCell ⟨s, 1, none⟩ v1) := (kept_set w4 _ 0 _).trans (kept_set _ _ 1 _)
  have q : Kept (fun k => w.heap.size ≤ k) w ((w4.setCell ⟨s, 0, none⟩ v0).setCell ⟨s, 1, none⟩ v1) := hp.kept.trans (hkf.mono (fun k _ e => by omega))
  refine ⟨by rw [cell_of_block hb 0]; simp, by rw [cell_of_block hb 1]; simp, _, _, rfl, Row.kept hd0 hkf (fun k hk e => (h0 k hk).2 e), Row.kept hd1 hkf (fun k hk e => (h1 k hk).2 e), q.below (Nat.le_refl _) (fun k hk e => by omega), fun k hk => (h0 k hk).1, fun k hk => (h1 k hk).1⟩

def nstep (node n : Int) (d : Dot) : Int := if d.1 = node ∧ n < d.2 then d.2 else n
theorem nstep_hit {node n x y : Int} (h : x = node) (h2 : n < y) : nstep node n (x, y) = y := by unfold nstep; exact if_pos ⟨h, h2⟩
theorem nstep_miss {node n x y : Int} (h : ¬ (x = node ∧ n < y)) : nstep node n (x, y) = n := by unfold nstep; exact if_neg h
/-- The greatest number that was seen of a node. -/
def cnx (B C : List Dot) (node : Int) : Int := C.foldl (nstep node) (cbase B node)
theorem nfold_take (node n : Int) (C : List Dot) (k : Nat) (h : k < C.length) : (C.take (k + 1)).foldl (nstep node) n = nstep node ((C.take k).foldl (nstep node) n) (C.getD k (0, 0)) := by
  rw [take_succ_d C k h, List.foldl_append]; rfl
theorem nfold_bd (node : Int) : ∀ (C : List Dot) (n : Int), 0 ≤ n → n ≤ 1152921504606846976 → (∀ d ∈ C, d.2 ≤ 1152921504606846976) → 0 ≤ C.foldl (nstep node) n ∧ C.foldl (nstep node) n ≤ 1152921504606846976
  | [], n, h0, h1, _ => ⟨h0, h1⟩
  | d :: C, n, h0, h1, h => by
    rw [List.foldl_cons]
    have hd := h d (by simp)
    refine nfold_bd node C _ ?_ ?_ (fun x hx => h x (List.mem_cons_of_mem _ hx)) <;> unfold nstep <;> split <;> omega

theorem own_rb_ge {w : World} {base e sz n g : Nat} {v : Value} {xs : List Value} (h : w.ownsRow base e sz v n xs) (hg : g + 2 ≤ base) : ∀ k, v.rb = some k → g ≤ k ∧ k ≠ g + 1 := fun k hk => by
  have := (h.lt k (rb_own hk)).1
  omega
/-- What lies in the variable of the result, while nothing was stored there. -/
def RsC (s : Nat) (W : World) : Prop := W.heap[s]? = some (.cells #[.slice none 0 0, .slice none 0 0] 29 (0, 0))
theorem RsC.go {s : Nat} {W W' : World} (h : Hid (RsC s W)) (hp : Pure W W') : Hid (RsC s W') ∧ W'.cell? ⟨s, 0, none⟩ = some (.slice none 0 0) ∧ W'.cell? ⟨s, 1, none⟩ = some (.slice none 0 0) ∧ W'.frozen? ⟨s, 0, none⟩ = false ∧ W'.frozen? ⟨s, 1, none⟩ = false := by
  have e : RsC s W' := (hp.block _ (lt_of_block h.out)).trans h.out
  exact ⟨e, cell_of_block e 0, cell_of_block e 1, free_of_block e 0, free_of_block e 1⟩

set_option maxRecDepth 8000 in
set_option maxHeartbeats 2000000 in
theorem rpart_any (vb vc : Value) (B C : List Dot) (node : Int) (w : World) (h1 : Dots w vb B) (h2 : Dots w vc C) (hl1 : B.length ≤ 100000) (hl2 : C.length ≤ 100000) :
    Calls Tryz.prog 45 #[.agg #[vb, vc], .int .i64 node] w (CtxF w (B.filter fun d => d.1 == node) (C.filter fun d => d.1 == node)) := by
  obtain ⟨wz, hwz⟩ : ∃ wz, wz = (w.alloc (.cells #[vb, vc] 29)).alloc (.cells #[.slice none 0 0, .slice none 0 0] 29) := ⟨_, rfl⟩
  have Hpz := hid (show Pure w wz from by rw [hwz]; exact ((Below.refl _ _).alloc (Nat.le_refl _) _).alloc (by simp) _)
  have hsz : wz.heap.size = w.heap.size + 2 := by rw [hwz]; simp
  have hbk : Hid (wz.heap[w.heap.size]? = some (.cells #[vb, vc] 29 (0, 0))) := by
    show wz.heap[w.heap.size]? = _
    rw [hwz]
    exact block_alloc_old (block_alloc_new _ _) _
  have hr0 : Hid (RsC (w.heap.size + 1) wz.drew) := by
    show wz.heap[w.heap.size + 1]? = _
    rw [hwz]
    have := block_alloc_new (w.alloc (.cells #[vb, vc] 29)) (.cells #[.slice none 0 0, .slice none 0 0] 29)
    simpa using this
  have hS : Hid (∀ W, Kept (fun k => k = w.heap.size + 1) wz W → (W.cell? ⟨w.heap.size, 0, none⟩ = some vb ∧ W.cell? ⟨w.heap.size, 1, none⟩ = some vc ∧ Kept (fun k => k = w.heap.size + 1) wz W)) := fun W hW => by
    have e0 := (hW.block _ (lt_of_block hbk.out) (by omega)).trans hbk.out
    exact ⟨cell_of_block e0 0, cell_of_block e0 1, hW⟩
  have hst := hid (hS.out wz.drew (Kept.refl _ _).drew)
  have hS2 : Hid (∀ W : World, (W.cell? ⟨w.heap.size, 0, none⟩ = some vb ∧ W.cell? ⟨w.heap.size, 1, none⟩ = some vc ∧ Kept (fun k => k = w.heap.size + 1) wz W) → Kept (fun k => k = w.heap.size + 1) wz W) := fun W h => h.2.2
  have hb := hid (fun W (hW : Kept (fun k => k = w.heap.size + 1) wz W) => rof_own vb B node W (Row.kept (Row.pure h1 Hpz.out) hW (fun k hk e => by have := Row.lt h1 k hk; omega)) hl1)
  have hc := hid (fun W (hW : Kept (fun k => k = w.heap.size + 1) wz W) => rof_own vc C node W (Row.kept (Row.pure h2 Hpz.out) hW (fun k hk e => by have := Row.lt h2 k hk; omega)) hl2)
  have Hsz := hid hsz
  clear h1 h2 hsz
  go_enter Tryz.func45, Tryz.ntmps45
  go_wp2_with fail
  rw [← hwz]
  clear hwz
  go_region_held3 (fun W => W.cell? ⟨w.heap.size, 0, none⟩ = some vb ∧ W.cell? ⟨w.heap.size, 1, none⟩ = some vc ∧ Kept (fun k => k = w.heap.size + 1) wz W)
    (first | with_reducible exact hst.out | with_reducible exact hS.out _ (Kept.trans (hS2.out _ (by assumption)) (Pure.kept (by assumption))) | exact hS.out _ (Kept.setCell (Kept.setCell (hS2.out _ (by assumption)) (fun _ => rfl) _) (fun _ => rfl) _))
    ((first | (go_at_call 74; (with_reducible refine (hb.out _ (hS2.out _ (by assumption))).mono ?_); rintro e w7 ⟨v7, rfl, hd7, hp7⟩; obtain ⟨a7, c7, rfl⟩ := own_shape_d hd7; obtain ⟨hr7, x70, x71, f70, f71⟩ := RsC.go (by assumption) hp7) | (go_at_call 74; (with_reducible refine (hc.out _ (hS2.out _ (by assumption))).mono ?_); rintro e w8 ⟨v8, rfl, hd8, hp8⟩; obtain ⟨a8, c8, rfl⟩ := own_shape_d hd8; obtain ⟨hr8, x80, x81, f80, f81⟩ := RsC.go (by assumption) hp8)))
  have hsz := Hsz.out
  have hz7 := hp7.size
  have hp8' : Pure w w8 := Hpz.out.then_ (Pure.then_ (Pure.then_ (Below.refl _ _).drew hp7) hp8)
  obtain ⟨t0, t1, hfin⟩ := ctx_ret (w := w) hr8.out (by omega) hp8' (Row.of_own (own_pure hd7 hp8) : Dots w8 _ _) (Row.of_own hd8 : Dots w8 _ _) (own_rb_ge hd7 (show w.heap.size + 2 ≤ wz.heap.size by omega)) (own_rb_ge hd8 (show w.heap.size + 2 ≤ w7.heap.size by have : wz.drew.heap.size = wz.heap.size := rfl; omega))
  have T0 := hid t0
  have T1 := hid t1
  have Hfin := hid hfin
  clear t0 t1 hfin hd7 hd8 hp7 hp8 hp8' hr7 hr8 x70 x71 f70 f71 x80 x81 f80 f81 hst hS hS2 hb hc
  go_wp2
  exact bodyPost_ret (v := .agg #[.slice a7 (B.filter fun d => d.1 == node).length c7, .slice a8 (C.filter fun d => d.1 == node).length c8]) (by simp [results, Tryz.results45, go_sem, T0.out, T1.out]) rfl Hfin.out

def ccov (aB aC bB bC : List Dot) : Bool := decide ((cjoin aB aC bB bC).1 = aB) && decide ((cjoin aB aC bB bC).2 = aC)
/-- Two contexts in boxes. -/
theorem box2 (w : World) (a0 a1 b0 b1 : Value) : ∃ wz, wz = (w.alloc (.cells #[a0, a1] 29)).alloc (.cells #[b0, b1] 29) ∧ Hid (Pure w wz) ∧ Hid (∀ W, Pure wz W → (W.cell? ⟨w.heap.size, 0, none⟩ = some a0 ∧ W.cell? ⟨w.heap.size, 1, none⟩ = some a1 ∧ W.cell? ⟨w.heap.size + 1, 0, none⟩ = some b0 ∧ W.cell? ⟨w.heap.size + 1, 1, none⟩ = some b1 ∧ Pure wz W)) := by
  refine ⟨_, rfl, ((Below.refl _ _).alloc (Nat.le_refl _) _).alloc (by simp) _, fun W hW => ?_⟩
  have e0 := (hW.block _ (by simp; omega)).trans (block_alloc_old (block_alloc_new w (.cells #[a0, a1] 29)) (.cells #[b0, b1] 29))
  have h1 : ((w.alloc (.cells #[a0, a1] 29)).alloc (.cells #[b0, b1] 29)).heap[w.heap.size + 1]? = some (.cells #[b0, b1] 29 (0, 0)) := by
    have := block_alloc_new (w.alloc (.cells #[a0, a1] 29)) (.cells #[b0, b1] 29)
    simpa using this
  have e1 := (hW.block _ (by simp)).trans h1
  exact ⟨cell_of_block e0 0, cell_of_block e0 1, cell_of_block e1 0, cell_of_block e1 1, hW⟩
end Go.Proofs.YtcjggofcmjpfnaaGreat
