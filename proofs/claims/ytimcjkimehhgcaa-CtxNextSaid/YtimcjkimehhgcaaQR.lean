/- ref04: Upto, Next, Part, Covers. -/
import Derived.Test.YtimcjkimehhgcaaQS
import Derived.Test.YtimcjkimehhgcaaCm2
namespace Go.Proofs.Ytimcjkimehhgcaa
open Go.RowKit Go.Maps

/-- A context that was handed back: its rows, in memory of the call's own. -/
def CtxF (w : World) (B C : List Dot) (e : Ending) (w' : World) : Prop :=
  ∃ v0 v1, e = .returned (.agg #[v0, v1]) ∧ Dots w' v0 B ∧ Dots w' v1 C ∧ Pure w w' ∧ (∀ k, v0.rb = some k → w.heap.size ≤ k) ∧ (∀ k, v1.rb = some k → w.heap.size ≤ k)

/-- A context is laid into the variable of the result, and handed back. -/
theorem ctx_ret {w w4 : World} {s : Nat} {x y v0 v1 : Value} {B C : List Dot} (hres : w4.heap[s]? = some (.cells #[x, y] 24 (0, 0))) (hs : w.heap.size ≤ s) (hp : Pure w w4) (hd0 : Dots w4 v0 B) (hd1 : Dots w4 v1 C)
    (h0 : ∀ k, v0.rb = some k → w.heap.size ≤ k ∧ k ≠ s) (h1 : ∀ k, v1.rb = some k → w.heap.size ≤ k ∧ k ≠ s) :
    ((w4.setCell ⟨s, 0, none⟩ v0).setCell ⟨s, 1, none⟩ v1).cell? ⟨s, 0, none⟩ = some v0 ∧ ((w4.setCell ⟨s, 0, none⟩ v0).setCell ⟨s, 1, none⟩ v1).cell? ⟨s, 1, none⟩ = some v1 ∧ CtxF w B C (.returned (.agg #[v0, v1])) ((w4.setCell ⟨s, 0, none⟩ v0).setCell ⟨s, 1, none⟩ v1) := by
  have hb := block_setCell (block_setCell hres 0 v0) 1 v1
  have hkf : Kept (fun k => k = s) w4 ((w4.setCell ⟨s, 0, none⟩ v0).setCell ⟨s, 1, none⟩ v1) := (kept_set w4 _ 0 _).trans (kept_set _ _ 1 _)
  have q : Kept (fun k => w.heap.size ≤ k) w ((w4.setCell ⟨s, 0, none⟩ v0).setCell ⟨s, 1, none⟩ v1) := hp.kept.trans (hkf.mono (fun k _ e => by omega))
  refine ⟨by rw [cell_of_block hb 0]; simp, by rw [cell_of_block hb 1]; simp, _, _, rfl, Row.kept hd0 hkf (fun k hk e => (h0 k hk).2 e), Row.kept hd1 hkf (fun k hk e => (h1 k hk).2 e), q.below (Nat.le_refl _) (fun k hk e => by omega), fun k hk => (h0 k hk).1, fun k hk => (h1 k hk).1⟩

set_option maxHeartbeats 400000 in
theorem rupto_any (vb vc : Value) (l : List Dot) (node : Int) (w : World) (hr : Dots w vb l) :
    Calls Try.prog 21 #[.agg #[vb, vc], .int .i64 node] w fun r w' => r = .returned (.int .i64 (cbase l node)) ∧ Pure w w' := by
  have hb := hid (rbase_any vb vc l node (w.alloc (.cells #[vb, vc] 24)) (Row.pure hr ((Below.refl _ _).alloc (Nat.le_refl _) _)))
  have hp := hid (fun o => (show Pure w (w.alloc o) from (Below.refl _ _).alloc (Nat.le_refl _) o))
  obtain ⟨a, cap, rfl⟩ := hr.shape
  clear hr
  generalize cbase l node = n at *
  go_enter Try.func21, Try.ntmps21
  go_wp2_with fail
  refine hb.out.mono ?_
  rintro e w2 ⟨rfl, hp2⟩
  have Hp2 := hid ((hp.out _).then_ hp2)
  clear hp2
  go_wp2
  go_ret
  exact ⟨rfl, Hp2.out⟩

def nstep (node n : Int) (d : Dot) : Int := if d.1 = node ∧ n < d.2 then d.2 else n
theorem nstep_hit {node n x y : Int} (h : x = node) (h2 : n < y) : nstep node n (x, y) = y := by unfold nstep; exact if_pos ⟨h, h2⟩
theorem nstep_miss {node n x y : Int} (h : ¬ (x = node ∧ n < y)) : nstep node n (x, y) = n := by unfold nstep; exact if_neg h
/-- The greatest number that was seen of a node. -/
def cnx (B C : List Dot) (node : Int) : Int := C.foldl (nstep node) (cbase B node)
theorem nfold_take (node n : Int) (C : List Dot) (k : Nat) (h : k < C.length) : (C.take (k + 1)).foldl (nstep node) n = nstep node ((C.take k).foldl (nstep node) n) (C.getD k (0, 0)) := by
  rw [take_succ_d C k h, List.foldl_append]; rfl
theorem nfold_bd (node : Int) : ∀ (C : List Dot) (n : Int), 0 ≤ n → n ≤ 1152921504606846976 → (∀ d ∈ C, d.2 ≤ 1152921504606846976) → 0 ≤ C.foldl (nstep node) n ∧ C.foldl (nstep node) n ≤ 1152921504606846976
  | [], n, h0, h1, _ => ⟨h0, h1⟩
  | d :: C, n, h0, h1, h => by
    rw [List.foldl_cons]
    have hd := h d (by simp)
    refine nfold_bd node C _ ?_ ?_ (fun x hx => h x (List.mem_cons_of_mem _ hx)) <;> unfold nstep <;> split <;> omega

set_option maxRecDepth 8000 in
set_option maxHeartbeats 2000000 in
theorem rnext_any (vb vc : Value) (B C : List Dot) (node : Int) (w : World) (h1 : Dots w vb B) (h2 : Dots w vc C) (hb1 : ∀ d ∈ B, 0 ≤ d.2 ∧ d.2 ≤ 1152921504606846976) (hc1 : ∀ d ∈ C, d.2 ≤ 1152921504606846976) :
    Calls Try.prog 25 #[.agg #[vb, vc], .int .i64 node] w fun r w' => r = .returned (dv (node, cnx B C node + 1)) ∧ Pure w w' := by
  obtain ⟨wz, hwz⟩ : ∃ wz, wz = (w.alloc (.cells #[vb, vc] 24)).alloc (.cells #[.int .i64 0, .int .i64 0] 30) := ⟨_, rfl⟩
  have Hpz := hid (show Pure w wz from by rw [hwz]; exact ((Below.refl _ _).alloc (Nat.le_refl _) _).alloc (by simp) _)
  have hbk : Hid (wz.heap[w.heap.size]? = some (.cells #[vb, vc] 24 (0, 0)) ∧ wz.heap[w.heap.size + 1]? = some (.cells #[.int .i64 0, .int .i64 0] 30 (0, 0))) := by
    show wz.heap[w.heap.size]? = _ ∧ wz.heap[w.heap.size + 1]? = _
    rw [hwz]
    refine ⟨block_alloc_old (block_alloc_new _ _) _, ?_⟩
    have := block_alloc_new (w.alloc (.cells #[vb, vc] 24)) (.cells #[.int .i64 0, .int .i64 0] 30)
    simpa using this
  have hb := hid (rbase_any vb vc B node wz (Row.pure h1 Hpz.out))
  have HC := hid (fun W (hW : Pure wz W) => (Row.pure h2 (Hpz.out.then_ hW) : Dots W vc C))
  have hlt2 := Row.len_le h2
  unfold maxLen at hlt2
  obtain ⟨n0, n1⟩ := cbase_bd hb1 (by decide) node
  have Hbd := hid (fun k => nfold_bd node (C.take k) (cbase B node) n0 n1 (fun d hd => hc1 d (List.mem_of_mem_take hd)))
  have Hstep := hid (fun k h => nfold_take node (cbase B node) C k h)
  obtain ⟨a, cap, rfl⟩ := h2.shape
  clear h1 h2 n0 n1
  unfold cnx dv
  generalize cbase B node = n at *
  go_enter Try.func25, Try.ntmps25
  go_wp2_with fail
  rw [← hwz]
  clear hwz
  refine hb.out.mono ?_
  rintro e w2 ⟨rfl, hp2⟩
  have Hp2 := hid hp2
  clear hp2
  go_wp2
  go_loopw [5, 6] (fun s5 s6 wr => ∃ k : Nat, k ≤ C.length ∧ s6 = .int .i64 k ∧ s5 = .int .i64 ((C.take k).foldl (nstep node) n) ∧ Pure wz wr) (fun _ s6 _ => C.length - (RowKit.intOf s6).toNat)
  case atStart => exact ⟨0, Nat.zero_le _, rfl, rfl, Hp2.out⟩
  case round =>
    obtain ⟨k, hk, rfl, rfl, hp⟩ := hrel
    have Hp := hid hp
    have hq := Hp.out.size
    have e0 : wr.heap[w.heap.size]? = some (.cells #[vb, .slice a C.length cap] 24 (0, 0)) := (hp.block _ (lt_of_block hbk.out.1)).trans hbk.out.1
    have c1 : wr.cell? ⟨w.heap.size, 1, none⟩ = some (.slice a C.length cap) := cell_of_block e0 1
    by_cases hlt : k < C.length
    · obtain ⟨b, off, rfl, hb0, x0, x1⟩ := Dots.get (HC.out wr hp) hlt
      have hlt' : (k : Int) < (C.length : Int) := by omega
      have Hs := hid (Hstep.out k hlt)
      generalize (C.take k).foldl (nstep node) n = m at *
      generalize C.getD k (0, 0) = z at *
      obtain ⟨z1, z2⟩ := z
      dsimp only at x0 x1
      by_cases h1 : z1 = node
      · subst h1
        by_cases h2 : m < z2
        · have Hs' := hid (Hs.out.trans (nstep_hit rfl h2))
          clear hp hb0 e0 Hs
          go_wp2
          go_roundw
          case rel => exact ⟨k + 1, by omega, by go_num, by rw [Hs'.out], Hp.out⟩
          case measure => simp [RowKit.intOf]; omega
        · have Hs' := hid (Hs.out.trans (nstep_miss (fun h => h2 h.2)))
          clear hp hb0 e0 Hs
          go_wp2
          go_roundw
          case rel => exact ⟨k + 1, by omega, by go_num, by rw [Hs'.out], Hp.out⟩
          case measure => simp [RowKit.intOf]; omega
      · have Hs' := hid (Hs.out.trans (nstep_miss (fun h => h1 h.1)))
        have ht : (z1 == node) = false := by simpa using h1
        have hun : (undef : Value) = .tuple #[] := rfl
        clear hp hb0 e0 Hs h1
        go_wp2
        go_roundw
        case rel => exact ⟨k + 1, by omega, by go_num, by rw [Hs'.out], Hp.out⟩
        case measure => simp [RowKit.intOf]; omega
    · obtain rfl : k = C.length := by omega
      have hlt' : ¬ (C.length : Int) < (C.length : Int) := by omega
      have Hb := Hbd.out C.length
      rw [List.take_length] at Hb ⊢
      generalize hme : C.foldl (nstep node) n = m at *
      have Hme := hid hme
      clear hme
      obtain ⟨b0, b1⟩ := Hb
      have r0 : wr.heap[w.heap.size + 1]? = some (.cells #[.int .i64 0, .int .i64 0] 30 (0, 0)) := (hp.block _ (lt_of_block hbk.out.2)).trans hbk.out.2
      have f0 := cell_of_block r0 0
      have f1 := cell_of_block r0 1
      have g0 := free_of_block r0 0
      have g1 := free_of_block r0 1
      have T := hid (block_setCell (block_setCell r0 0 (.int .i64 node)) 1 (.int .i64 (m + 1)))
      have hkf : Hid (Kept (fun k => k = w.heap.size + 1) wr ((wr.setCell ⟨w.heap.size + 1, 0, none⟩ (.int .i64 node)).setCell ⟨w.heap.size + 1, 1, none⟩ (.int .i64 (m + 1)))) := (kept_set wr _ 0 _).trans (kept_set _ _ 1 _)
      have hfin : Hid (Pure w ((wr.setCell ⟨w.heap.size + 1, 0, none⟩ (.int .i64 node)).setCell ⟨w.heap.size + 1, 1, none⟩ (.int .i64 (m + 1)))) :=
        ((Hpz.out.then_ Hp.out).kept.trans (hkf.out.mono (T := fun k => w.heap.size ≤ k) (fun k _ e => by omega))).below (Nat.le_refl _) (fun k hk e => by omega)
      clear hp e0 hkf r0
      go_wp2
      refine bodyPost_ret (v := .agg #[.int .i64 node, .int .i64 (m + 1)]) (by simp [results, Try.results25, go_sem, cell_of_block T.out 0, cell_of_block T.out 1]) rfl ⟨by rw [Hme.out], hfin.out⟩

theorem own_rb_ge {w : World} {base e sz n g : Nat} {v : Value} {xs : List Value} (h : w.ownsRow base e sz v n xs) (hg : g + 2 ≤ base) : ∀ k, v.rb = some k → g ≤ k ∧ k ≠ g + 1 := fun k hk => by
  have := (h.lt k (rb_own hk)).1
  omega
/-- What lies in the variable of the result, while nothing was stored there. -/
def RsC (s : Nat) (W : World) : Prop := W.heap[s]? = some (.cells #[.slice none 0 0, .slice none 0 0] 24 (0, 0))
theorem RsC.go {s : Nat} {W W' : World} (h : Hid (RsC s W)) (hp : Pure W W') : Hid (RsC s W') ∧ W'.cell? ⟨s, 0, none⟩ = some (.slice none 0 0) ∧ W'.cell? ⟨s, 1, none⟩ = some (.slice none 0 0) ∧ W'.frozen? ⟨s, 0, none⟩ = false ∧ W'.frozen? ⟨s, 1, none⟩ = false := by
  have e : RsC s W' := (hp.block _ (lt_of_block h.out)).trans h.out
  exact ⟨e, cell_of_block e 0, cell_of_block e 1, free_of_block e 0, free_of_block e 1⟩

set_option maxRecDepth 8000 in
set_option maxHeartbeats 2000000 in
theorem rpart_any (vb vc : Value) (B C : List Dot) (node : Int) (w : World) (h1 : Dots w vb B) (h2 : Dots w vc C) (hl1 : B.length ≤ 100000) (hl2 : C.length ≤ 100000) :
    Calls Try.prog 31 #[.agg #[vb, vc], .int .i64 node] w (CtxF w (B.filter fun d => d.1 == node) (C.filter fun d => d.1 == node)) := by
  obtain ⟨wz, hwz⟩ : ∃ wz, wz = (w.alloc (.cells #[vb, vc] 24)).alloc (.cells #[.slice none 0 0, .slice none 0 0] 24) := ⟨_, rfl⟩
  have Hpz := hid (show Pure w wz from by rw [hwz]; exact ((Below.refl _ _).alloc (Nat.le_refl _) _).alloc (by simp) _)
  have hsz : wz.heap.size = w.heap.size + 2 := by rw [hwz]; simp
  have hbk : Hid (wz.heap[w.heap.size]? = some (.cells #[vb, vc] 24 (0, 0))) := by
    show wz.heap[w.heap.size]? = _
    rw [hwz]
    exact block_alloc_old (block_alloc_new _ _) _
  have hr0 : Hid (RsC (w.heap.size + 1) wz.drew) := by
    show wz.heap[w.heap.size + 1]? = _
    rw [hwz]
    have := block_alloc_new (w.alloc (.cells #[vb, vc] 24)) (.cells #[.slice none 0 0, .slice none 0 0] 24)
    simpa using this
  have hS : Hid (∀ W, Kept (fun k => k = w.heap.size + 1) wz W → (W.cell? ⟨w.heap.size, 0, none⟩ = some vb ∧ W.cell? ⟨w.heap.size, 1, none⟩ = some vc ∧ Kept (fun k => k = w.heap.size + 1) wz W)) := fun W hW => by
    have e0 := (hW.block _ (lt_of_block hbk.out) (by omega)).trans hbk.out
    exact ⟨cell_of_block e0 0, cell_of_block e0 1, hW⟩
  have hst := hid (hS.out wz.drew (Kept.refl _ _).drew)
  have hS2 : Hid (∀ W : World, (W.cell? ⟨w.heap.size, 0, none⟩ = some vb ∧ W.cell? ⟨w.heap.size, 1, none⟩ = some vc ∧ Kept (fun k => k = w.heap.size + 1) wz W) → Kept (fun k => k = w.heap.size + 1) wz W) := fun W h => h.2.2
  have hb := hid (fun W (hW : Kept (fun k => k = w.heap.size + 1) wz W) => rof_own vb B node W (Row.kept (Row.pure h1 Hpz.out) hW (fun k hk e => by have := Row.lt h1 k hk; omega)) hl1)
  have hc := hid (fun W (hW : Kept (fun k => k = w.heap.size + 1) wz W) => rof_own vc C node W (Row.kept (Row.pure h2 Hpz.out) hW (fun k hk e => by have := Row.lt h2 k hk; omega)) hl2)
  have Hsz := hid hsz
  clear h1 h2 hsz
  go_enter Try.func31, Try.ntmps31
  go_wp2_with fail
  rw [← hwz]
  clear hwz
  go_region_held3 (fun W => W.cell? ⟨w.heap.size, 0, none⟩ = some vb ∧ W.cell? ⟨w.heap.size, 1, none⟩ = some vc ∧ Kept (fun k => k = w.heap.size + 1) wz W)
    (first | with_reducible exact hst.out | with_reducible exact hS.out _ (Kept.trans (hS2.out _ (by assumption)) (Pure.kept (by assumption))) | exact hS.out _ (Kept.setCell (Kept.setCell (hS2.out _ (by assumption)) (fun _ => rfl) _) (fun _ => rfl) _))
    ((first | (go_at_call 50; (with_reducible refine (hb.out _ (hS2.out _ (by assumption))).mono ?_); rintro e w7 ⟨v7, rfl, hd7, hp7⟩; obtain ⟨a7, c7, rfl⟩ := own_shape_d hd7; obtain ⟨hr7, x70, x71, f70, f71⟩ := RsC.go (by assumption) hp7) | (go_at_call 50; (with_reducible refine (hc.out _ (hS2.out _ (by assumption))).mono ?_); rintro e w8 ⟨v8, rfl, hd8, hp8⟩; obtain ⟨a8, c8, rfl⟩ := own_shape_d hd8; obtain ⟨hr8, x80, x81, f80, f81⟩ := RsC.go (by assumption) hp8)))
  have hsz := Hsz.out
  have hz7 := hp7.size
  have hp8' : Pure w w8 := Hpz.out.then_ (Pure.then_ (Pure.then_ (Below.refl _ _).drew hp7) hp8)
  obtain ⟨t0, t1, hfin⟩ := ctx_ret (w := w) hr8.out (by omega) hp8' (Row.of_own (own_pure hd7 hp8) : Dots w8 _ _) (Row.of_own hd8 : Dots w8 _ _) (own_rb_ge hd7 (show w.heap.size + 2 ≤ wz.heap.size by omega)) (own_rb_ge hd8 (show w.heap.size + 2 ≤ w7.heap.size by have : wz.drew.heap.size = wz.heap.size := rfl; omega))
  have T0 := hid t0
  have T1 := hid t1
  have Hfin := hid hfin
  clear t0 t1 hfin hd7 hd8 hp7 hp8 hp8' hr7 hr8 x70 x71 f70 f71 x80 x81 f80 f81 hst hS hS2 hb hc
  go_wp2
  exact bodyPost_ret (v := .agg #[.slice a7 (B.filter fun d => d.1 == node).length c7, .slice a8 (C.filter fun d => d.1 == node).length c8]) (by simp [results, Try.results31, go_sem, T0.out, T1.out]) rfl Hfin.out

def ccov (aB aC bB bC : List Dot) : Bool := decide ((cjoin aB aC bB bC).1 = aB) && decide ((cjoin aB aC bB bC).2 = aC)
/-- Two contexts in boxes. -/
theorem box2 (w : World) (a0 a1 b0 b1 : Value) : ∃ wz, wz = (w.alloc (.cells #[a0, a1] 24)).alloc (.cells #[b0, b1] 24) ∧ Hid (Pure w wz) ∧ Hid (∀ W, Pure wz W → (W.cell? ⟨w.heap.size, 0, none⟩ = some a0 ∧ W.cell? ⟨w.heap.size, 1, none⟩ = some a1 ∧ W.cell? ⟨w.heap.size + 1, 0, none⟩ = some b0 ∧ W.cell? ⟨w.heap.size + 1, 1, none⟩ = some b1 ∧ Pure wz W)) := by
  refine ⟨_, rfl, ((Below.refl _ _).alloc (Nat.le_refl _) _).alloc (by simp) _, fun W hW => ?_⟩
  have e0 := (hW.block _ (by simp; omega)).trans (block_alloc_old (block_alloc_new w (.cells #[a0, a1] 24)) (.cells #[b0, b1] 24))
  have h1 : ((w.alloc (.cells #[a0, a1] 24)).alloc (.cells #[b0, b1] 24)).heap[w.heap.size + 1]? = some (.cells #[b0, b1] 24 (0, 0)) := by
    have := block_alloc_new (w.alloc (.cells #[a0, a1] 24)) (.cells #[b0, b1] 24)
    simpa using this
  have e1 := (hW.block _ (by simp)).trans h1
  exact ⟨cell_of_block e0 0, cell_of_block e0 1, cell_of_block e1 0, cell_of_block e1 1, hW⟩
set_option maxRecDepth 8000 in
set_option maxHeartbeats 2000000 in
theorem rcovers_any (va0 va1 vb0 vb1 : Value) (aB aC bB bC : List Dot) (w : World) (h1 : Dots w va0 aB) (h2 : Dots w va1 aC) (h3 : Dots w vb0 bB) (h4 : Dots w vb1 bC) (hl : aB.length + aC.length + bB.length + bC.length ≤ 1000) (hb1 : ∀ d ∈ aB, 0 ≤ d.2 ∧ d.2 ≤ 1152921504606846976) (hb2 : ∀ d ∈ bB, 0 ≤ d.2 ∧ d.2 ≤ 1152921504606846976) :
    Calls Try.prog 23 #[.agg #[va0, va1], .agg #[vb0, vb1]] w fun e w' => e = .returned (.bool (ccov aB aC bB bC)) ∧ Pure w w' := by
  obtain ⟨wz, hwz, Hpz, hS⟩ := box2 w va0 va1 vb0 vb1
  have hst := hid (hS.out wz.drew (Below.refl _ _).drew)
  have hS2 : Hid (∀ W : World, (W.cell? ⟨w.heap.size, 0, none⟩ = some va0 ∧ W.cell? ⟨w.heap.size, 1, none⟩ = some va1 ∧ W.cell? ⟨w.heap.size + 1, 0, none⟩ = some vb0 ∧ W.cell? ⟨w.heap.size + 1, 1, none⟩ = some vb1 ∧ Pure wz W) → Pure wz W) := fun W h => h.2.2.2.2
  have hj := hid (fun W (hW : Pure wz W) => rjoin_any va0 va1 vb0 vb1 aB aC bB bC W (Row.pure h1 (Hpz.out.then_ hW)) (Row.pure h2 (Hpz.out.then_ hW)) (Row.pure h3 (Hpz.out.then_ hW)) (Row.pure h4 (Hpz.out.then_ hW)) hl hb1 hb2)
  have hs := hid (fun W v0 v1 (hW : Pure wz W) (k0 : Dots W v0 (cjoin aB aC bB bC).1) (k1 : Dots W v1 (cjoin aB aC bB bC).2) => rcsame_any v0 v1 va0 va1 (cjoin aB aC bB bC).1 (cjoin aB aC bB bC).2 aB aC W k0 k1 (Row.pure h1 (Hpz.out.then_ hW)) (Row.pure h2 (Hpz.out.then_ hW)))
  clear h1 h2 h3 h4 hb1 hb2
  unfold ccov
  generalize hJ : cjoin aB aC bB bC = J at *
  clear hJ
  go_enter Try.func23, Try.ntmps23
  go_wp2_with fail
  rw [← hwz]
  clear hwz
  go_region_held3 (fun W => W.cell? ⟨w.heap.size, 0, none⟩ = some va0 ∧ W.cell? ⟨w.heap.size, 1, none⟩ = some va1 ∧ W.cell? ⟨w.heap.size + 1, 0, none⟩ = some vb0 ∧ W.cell? ⟨w.heap.size + 1, 1, none⟩ = some vb1 ∧ Pure wz W)
    (first | with_reducible exact hst.out | with_reducible exact hS.out _ (Pure.then_ (hS2.out _ (by assumption)) (by assumption)))
    ((first | (go_at_call 28; (with_reducible refine (hj.out _ (hS2.out _ (by assumption))).mono ?_); rintro e w7 ⟨v7, u7, rfl, hd7, hd7', hp7, _, _⟩) | (go_at_call 27; (with_reducible refine (hs.out _ _ _ (hS2.out _ (by assumption)) hd7 hd7').mono ?_); rintro e w8 ⟨rfl, hp8⟩)))
  have hx := hid (Hpz.out.then_ (hS2.out w8 (by assumption)))
  clear hd7 hd7' hp7 hp8 hst hS hS2 hj hs
  go_wp2
  go_ret
  exact ⟨rfl, hx.out⟩
end Go.Proofs.Ytimcjkimehhgcaa
