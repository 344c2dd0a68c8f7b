/- slices.Insert of one message, into an owned row. bag.Put of any message. Put and Remove where they may not; Handed and Queue of the program and of the document. Handed of the program and of the document. ref05: Handed. -/
import Derived.Test.YtbcbmnifbflmaaaGreatMBg
import Derived.Shelf.Spec.SlicesInsertGrow
import Derived.Test.YtbcbmnifbflmaaaGreatMRb
import Derived.Test.YtbcbmnifbflmaaaGreatMSd
namespace Go.Proofs.YtbcbmnifbflmaaaGreat
open Go.RowKit Go.Maps Go.Shelf Go.Sort Go.Lib

theorem run_copy_z {P : Program} (w : World) (dT sT ty elem : TypeId) (z : Nat) (b o dLen dCap : Nat) (a : Addr) (sLen sCap k : Nat) (cs : List Value)
    (hu : P.underlying dT = some (.slice elem)) (hs : (P.info? elem).map (·.size) = some z) (hk : k = Nat.min sLen dLen) (hn : cs.length = k * z)
    (hsrc : ∀ j v, cs[j]? = some v → w.cell? (a.add j) = some v) (hc : ∀ j, j < cs.length → (w.cell? ⟨b, o + j, none⟩).isSome = true) (hf : ∀ j, j < cs.length → w.frozen? ⟨b, o + j, none⟩ = false) (h1 : ∀ v ∈ cs, v.oneCell' = true) :
    (Builtin.copy_ #[dT, sT] ty #[.slice (some ⟨b, o, none⟩) dLen dCap, .slice (some a) sLen sCap]).run P w = .ok (goInt k) (w.setCells b o cs) := by
  have hl := run_loadCells_list (P := P) w a cs hsrc
  have hst := run_storeCells_cells (P := P) b o cs 0 w (by simpa using hc) (by simpa using hf) h1
  cases hq : P.info? elem with
  | none => simp [hq] at hs
  | some i =>
    have hi : i.size = z := by simpa [hq] using hs
    rw [hn] at hl
    simp [Builtin.copy_, run_underlying hu, Builtin.lenOf, Builtin.firstCells, sizeOf, typeInfo, hq, hi, ← hk, hl, hst]
theorem blk_setCells (b : Nat) (t : TypeId) : ∀ (vs : List Value) (o : Nat) (w : World) (cs : Array Value), w.heap[b]? = some (.cells cs t (0, 0)) → ∃ cs', (w.setCells b o vs).heap[b]? = some (.cells cs' t (0, 0)) ∧ cs'.size = cs.size
  | [], _, _, cs, h => ⟨cs, h, rfl⟩
  | v :: r, o, w, cs, h => by
    obtain ⟨cs', h1, h2⟩ := blk_setCells b t r (o + 1) (w.setCell ⟨b, o, none⟩ v) _ (block_setCell h o v)
    exact ⟨cs', h1, by simpa using h2⟩
theorem own_of_cells {w : World} {base e size g cap n : Nat} {cur : Array Value} {xs : List Value} (hg : base ≤ g) (hb : w.heap[g]? = some (.cells cur e (0, 0))) (hn : n ≤ cap) (hm : cap ≤ maxLen) (hs : cur.size = cap * size) (hl : xs.length = n * size) (hc : ∀ j, j < n * size → w.cell? ⟨g, j, none⟩ = xs[j]?) : w.ownsRow base e size (.slice (some ⟨g, 0, none⟩) n cap) n xs := by
  refine ⟨hl, .inr ⟨g, cap, cur, rfl, hg, hb, hn, hm, hs, ?_⟩⟩
  apply List.ext_getElem?
  intro j
  rw [List.getElem?_take]
  split
  · rename_i hj
    rw [← hc j hj, cell_of_block hb]
    simp
  · rename_i hj
    rw [List.getElem?_eq_none (by omega)]
theorem grown_new {w W W' : World} {r : Option Nat} {N : Nat} (h : w.grownBy W r) (k : W.grownBy W' (some N)) (hN : w.heap.size ≤ N) : w.grownBy W' r :=
  ⟨k.os.trans h.os, k.tape.trans h.tape, k.output.trans h.output, Nat.le_trans h.size k.size, fun i hi hne => (k.block i (Nat.lt_of_lt_of_le hi h.size) (fun e => by cases e; omega)).trans (h.block i hi hne)⟩
theorem setCells_size (b : Nat) : ∀ (vs : List Value) (o : Nat) (w : World), (w.setCells b o vs).heap.size = w.heap.size
  | [], _, _ => rfl
  | v :: r, o, w => by rw [World.setCells, setCells_size b r]; simp [World.setCell]
def InsP (base : Nat) (v : Value) (L : List Msg) (w : World) (e : Ending) (w' : World) : Prop := ∃ v', e = .returned v' ∧ w'.ownsRow base 41 5 v' L.length (mvs L) ∧ w.grownBy w' v.ownBlock
/-- What the cells of a row are, with one put between. -/
theorem ins_cells (l : List Msg) (i : Nat) (hi : i ≤ l.length) (m : Msg) (j : Nat) : (mvs (l.take i ++ [m] ++ l.drop i))[j]? = if j < i * 5 then (mvs l)[j]? else if j < (i + 1) * 5 then (mcells m)[j - i * 5]? else (mvs (l.drop i))[j - (i + 1) * 5]? := by
  have e0 : mvs l = mvs (l.take i) ++ mvs (l.drop i) := by rw [← mvs_append, List.take_append_drop]
  have h0 : (mvs (l.take i)).length = i * 5 := by rw [mvs_len, List.length_take]; omega
  have h1 : (mcells m).length = 5 := rfl
  have e1 : mvs [m] = mcells m := by simp [mvs]
  rw [mvs_append, mvs_append, e1, e0, List.append_assoc]
  split
  · rename_i h
    rw [List.getElem?_append_left (by omega), List.getElem?_append_left (by omega)]
  · rename_i h
    rw [List.getElem?_append_right (by omega), h0]
    split
    · rw [List.getElem?_append_left (by omega)]
    · rw [List.getElem?_append_right (by omega), h1]
      congr 1; omega

set_option maxRecDepth 8000 in
set_option maxHeartbeats 4000000 in
theorem ins_end (base : Nat) (v : Value) (l : List Msg) (m : Msg) (u : Value) (w : World) (h : w.ownsRow base 41 5 v l.length (mvs l)) (hl : l.length ≤ 100000) (hu : Row w u 1 5 (mvs [m])) (hbase : base ≤ w.heap.size) :
    Calls Tryz.prog 58 #[v, .int .i64 l.length, u] w (InsP base v (l ++ [m]) w) := by
  obtain ⟨a, c, rfl⟩ := Row.shape hu
  obtain ⟨a1, c1, rfl⟩ := own_shape_d h
  have H := hid h
  have Hu := hid hu
  have hcap : l.length ≤ c1 ∧ c1 ≤ maxLen := by
    obtain ⟨_, a', c', e, q1, q2, _⟩ := Row.of_own h
    cases e; exact ⟨q1, q2⟩
  unfold maxLen at hcap
  obtain ⟨hc0, hc2⟩ := hcap
  have hpl : a1 = none ∨ ∃ b o, a1 = some ⟨b, o, none⟩ := by
    obtain ⟨p, c', e, hp⟩ := own_plain_d h
    cases e; exact hp
  obtain ⟨vv, hsl, -⟩ := slice_suf_row (P := Tryz.prog) Tryz.underlying22 (Row.of_own h) (k := l.length) (Nat.le_refl _) hpl sizeMsg
  have hwn : IntKind.i64.wrap (l.length : Int) = (l.length : Int) := IntWalk.i64_in _ (by omega)
  clear h hu
  go_enter Tryz.func58, Tryz.ntmps58
  go_wp2_with (at_builtin; refine wpList_append_msgs rfl _ _ rfl base _ l l.length rfl H.out _ [m] 1 rfl Hu.out (by omega) hbase ?_)
  intro v' w' hown hg
  have Hown := hid (show w'.ownsRow base 41 5 v' (l ++ [m]).length (mvs (l ++ [m])) by rw [List.length_append]; exact hown)
  have Hg := hid hg
  clear hown hg
  go_wp2
  go_ret
  exact ⟨_, rfl, Hown.out, Hg.out⟩

/-- A box with one message. -/
def MBx (n : Nat) (m : Msg) (w : World) : Prop := w.heap[n]? = some (.cells (mcells m).toArray 41 (0, 0))
theorem MBx.cell {n : Nat} {m : Msg} {w : World} (h : MBx n m w) {j : Nat} {v : Value} (hj : (mcells m)[j]? = some v) : w.cell? ⟨n, j, none⟩ = some v := by
  rw [cell_of_block h]; simpa using hj

set_option maxRecDepth 100000 in
set_option maxHeartbeats 8000000 in
theorem ins_grow (base g cap : Nat) (cur : Array Value) (l : List Msg) (i : Nat) (m : Msg) (ub uc : Nat) (w : World) (hi : i < l.length) (hl : l.length ≤ 100000) (hb : w.heap[g]? = some (.cells cur 41 (0, 0))) (hnc : l.length ≤ cap) (hroom : cap < l.length + 1) (hcur : cur.toList.take (l.length * 5) = mvs l)
    (hu : MBx ub m w) (hbase : base ≤ w.heap.size) :
    Calls Tryz.prog 58 #[.slice (some ⟨g, 0, none⟩) l.length cap, .int .i64 i, .slice (some ⟨ub, 0, none⟩) 1 uc] w (InsP base (.slice (some ⟨g, 0, none⟩) l.length cap) (l.take i ++ [m] ++ l.drop i) w) := by
  obtain ⟨i0, hi0, hz0, hzs, hzb⟩ := info_parts infoMsg
  have hsz : (Tryz.prog.info? 41).map (·.size) = some 5 := by rw [hi0]; simp [hzs]
  have hgl := lt_of_block hb
  have hul := lt_of_block hu
  generalize hn : l.length = n at *
  have hcs : ∀ j v, (mvs l)[j]? = some v → w.cell? ⟨g, j, none⟩ = some v := fun j v hj => by
    rw [cell_of_block hb, ← hj, ← hcur, List.getElem?_take]
    have : j < n * 5 := by have := (List.getElem?_eq_some_iff.1 hj).1; rw [mvs_len, hn] at this; exact this
    rw [if_pos this]; simp
  have ht0 : (mvs (l.take i)).length = i * 5 := by rw [mvs_len, List.length_take]; omega
  have hd0 : (mvs (l.drop i)).length = (n - i) * 5 := by rw [mvs_len, List.length_drop, hn]
  have e0 : mvs l = mvs (l.take i) ++ mvs (l.drop i) := by rw [← mvs_append, List.take_append_drop]
  have hold : (Builtin.firstCells i0.size i (.slice (some ⟨g, 0, none⟩) i cap)).run Tryz.prog w.drew = .ok (mvs (l.take i)).toArray w.drew := by
    rw [hzs]
    exact run_firstCells_some w.drew 5 i ⟨g, 0, none⟩ i cap (mvs (l.take i)) (by rw [ht0]) (fun j v hj => by
      rw [Addr.add_lit, Nat.zero_add]
      refine hcs j v ?_
      rw [e0, List.getElem?_append_left (List.getElem?_eq_some_iff.1 hj).1]; exact hj)
  have hik : i + (n + 1 - i) = n + 1 := by omega
  have hkk : (n : Int) + 1 - (i : Int) = ((n + 1 - i : Nat) : Int) := by omega
  obtain ⟨ZV, hZV⟩ : ∃ ZV : Value, ZV = .agg #[.int .i64 0, .int .i64 0, .string ⟨#[]⟩, .string ⟨#[]⟩, .int .i64 0] := ⟨_, rfl⟩
  have hZs : ZV.cells.size = 5 := by rw [hZV]; rfl
  rw [← hZV] at hz0
  clear hZV
  have hrz : ∀ ty, (Builtin.append_ #[22, 3] ty #[.slice (some ⟨g, 0, none⟩) i cap, .int .i64 ((n : Int) + 1 - (i : Int))]).run Tryz.prog w =
      .ok (.slice (some ⟨w.heap.size, 0, none⟩) (n + 1) (grownCap w (n + 1) cap 41)) (w.drew.alloc (.cells ((mvs (l.take i)).toArray ++ Builtin.zeroCells ZV.cells (n + 1 - i) ++ Builtin.zeroCells ZV.cells (grownCap w (n + 1) cap 41 - (n + 1))) 41)) := fun ty => by
    have h := Lib.run_append_grow_zeros w 22 3 ty 41 i0 _ .i64 .i64 Tryz.underlying22 Tryz.underlying3 hi0 hz0 (some ⟨g, 0, none⟩) i cap (mvs (l.take i)) hold (n + 1 - i) (by omega) (by omega) (by omega) (by omega) (by rw [hzb]; omega) (by rw [hzb, hik]; exact growslice_fits hroom (by omega))
    rw [hik] at h
    rw [hkk]
    exact h
  obtain ⟨G, hG⟩ : ∃ G, G = grownCap w (n + 1) cap 41 := ⟨_, rfl⟩
  have hGn : n + 1 ≤ G := by rw [hG]; exact grownCap_ge w _ _ _
  have hGm : G ≤ maxLen := by rw [hG]; exact grownCap_le_maxLen w (n + 1) cap 41 (by unfold maxLen; omega)
  have hG63 : G ≤ 9223372036854775807 := hGm
  rw [← hG] at hrz
  obtain ⟨ROW, hROW⟩ : ∃ ROW : Array Value, ROW = (mvs (l.take i)).toArray ++ Builtin.zeroCells ZV.cells (n + 1 - i) ++ Builtin.zeroCells ZV.cells (G - (n + 1)) := ⟨_, rfl⟩
  rw [← hROW] at hrz
  have hRs : ROW.size = G * 5 := by
    rw [hROW, Array.size_append, Array.size_append, size_zeroCells, size_zeroCells, hZs, List.size_toArray, ht0]; omega
  have hRlow : ∀ j, j < i * 5 → ROW[j]? = (mvs l)[j]? := fun j hj => by
    rw [hROW, Array.append_assoc, Array.getElem?_append_left (by rw [List.size_toArray, ht0]; exact hj), e0, List.getElem?_append_left (by rw [ht0]; exact hj)]
    simp
  clear hG hROW hold
  obtain ⟨N, hN⟩ : ∃ N, N = w.heap.size := ⟨_, rfl⟩
  obtain ⟨W1, hW1⟩ : ∃ W1, W1 = w.drew.alloc (.cells ROW 41) := ⟨_, rfl⟩
  rw [← hW1, ← hN] at hrz
  have hB1 : W1.heap[N]? = some (.cells ROW 41 (0, 0)) := by rw [hW1, hN]; exact block_alloc_new w.drew _
  have hP1 : Pure w W1 := by rw [hW1]; exact ((Below.refl _ _).drew).alloc (Nat.le_refl _) _
  have hgN : g ≠ N := by omega
  have hcs1 : ∀ j v, (mvs l)[j]? = some v → W1.cell? ⟨g, j, none⟩ = some v := fun j v hj => (hP1.cell (p := ⟨g, j, none⟩) hgl).trans (hcs j v hj)
  have hu1 : MBx ub m W1 := (hP1.block ub hul).trans hu
  have hN1 : ∀ j, j < (n + 1) * 5 → (W1.cell? ⟨N, j, none⟩).isSome = true := fun j hj => by
    rw [cell_of_block hB1, Array.getElem?_eq_getElem (by rw [hRs]; omega)]; rfl
  have hNf : ∀ j, W1.frozen? ⟨N, j, none⟩ = false := fun j => free_of_block hB1 j
  obtain ⟨W2, hW2⟩ : ∃ W2, W2 = W1.setCells N (i * 5) (mcells m) := ⟨_, rfl⟩
  have hml : (mcells m).length = 5 := rfl
  have hm1 : ∀ v ∈ mcells m, v.oneCell' = true := fun v hv => mvs_one [m] v (by simpa [mvs] using hv)
  have hcpA : ∀ (W : World), (∀ x, W.cell? x = W1.cell? x) → (∀ x, W.frozen? x = W1.frozen? x) → ∀ ty dc, (Builtin.copy_ #[22, 22] ty #[.slice (some ⟨N, i * 5, none⟩) (n + 1 - i) dc, .slice (some ⟨ub, 0, none⟩) 1 uc]).run Tryz.prog W = .ok (goInt 1) (W.setCells N (i * 5) (mcells m)) := fun W hWc hWf ty dc =>
    run_copy_z W _ _ ty 41 5 N (i * 5) (n + 1 - i) dc ⟨ub, 0, none⟩ 1 uc 1 (mcells m) Tryz.underlying22 hsz (by simp only [Nat.min_def]; split <;> omega) rfl
      (fun j v hj => by rw [Addr.add_lit, Nat.zero_add, hWc]; exact hu1.cell hj)
      (fun j hj => by rw [hWc]; exact hN1 _ (by rw [hml] at hj; omega)) (fun j hj => by rw [hWf]; exact hNf _) hm1
  have hd1 : ∀ j v, (mvs (l.drop i))[j]? = some v → (mvs l)[i * 5 + j]? = some v := fun j v hj => by
    rw [e0, List.getElem?_append_right (by omega), ht0, Nat.add_sub_cancel_left]; exact hj
  have hcpB : ∀ (W : World), (∀ x, W.cell? x = W2.cell? x) → (∀ x, W.frozen? x = W2.frozen? x) → ∀ ty dc sc, (Builtin.copy_ #[22, 22] ty #[.slice (some ⟨N, (i + 1) * 5, none⟩) (n + 1 - (i + 1)) dc, .slice (some ⟨g, i * 5, none⟩) (n - i) sc]).run Tryz.prog W = .ok (goInt ((n - i : Nat) : Int)) (W.setCells N ((i + 1) * 5) (mvs (l.drop i))) := fun W hWc hWf ty dc sc =>
    run_copy_z W _ _ ty 41 5 N ((i + 1) * 5) (n + 1 - (i + 1)) dc ⟨g, i * 5, none⟩ (n - i) sc (n - i) (mvs (l.drop i)) Tryz.underlying22 hsz (by simp only [Nat.min_def]; split <;> omega) hd0
      (fun j v hj => by
        rw [Addr.add_lit, hWc, hW2, World.cell?_setCells_out _ _ _ _ _ (fun h _ => absurd h hgN)]
        exact hcs1 _ v (hd1 j v hj))
      (fun j hj => by rw [hWc, hW2]; exact isSome_setCells _ _ _ _ (fun t ht => hN1 _ (by rw [hml] at ht; omega)) _ (hN1 _ (by rw [hd0] at hj; omega)))
      (fun j hj => by rw [hWf, hW2, World.frozen?_setCells]; exact hNf _) (fun v hv => mvs_one _ v hv)
  have Hfin := hid (show ∀ W3, (∀ k, k ≠ N → W3.heap[k]? = W1.heap[k]?) → W3.os = w.os → W3.tape = w.tape → W3.output = w.output → W1.heap.size ≤ W3.heap.size → W3.heap[N]? = ((W2.setCells N ((i + 1) * 5) (mvs (l.drop i))).heap[N]?) → InsP base (.slice (some ⟨g, 0, none⟩) n cap) (l.take i ++ [m] ++ l.drop i) w (.returned (.slice (some ⟨N, 0, none⟩) (n + 1) G)) W3 from by
    intro W3 h1 h2 h3 h4 h5 h6
    obtain ⟨c2, hb2, hs2⟩ := blk_setCells N 41 (mcells m) (i * 5) W1 ROW hB1
    rw [← hW2] at hb2
    obtain ⟨c3, hb3, hs3⟩ := blk_setCells N 41 (mvs (l.drop i)) ((i + 1) * 5) W2 c2 hb2
    have hL : (l.take i ++ [m] ++ l.drop i).length = n + 1 := by simp [List.length_take, List.length_drop]; omega
    refine ⟨_, rfl, ?_, ⟨h2, h3, h4, Nat.le_trans hP1.size h5, fun k hk hne => (h1 k (by omega)).trans (hP1.block k hk)⟩⟩
    rw [hL]
    refine own_of_cells (cur := c3) (by omega) (h6.trans hb3) hGn hGm (by rw [hs3, hs2, hRs]) (by rw [mvs_len, hL]) (fun j hj => ?_)
    have e3 : W3.cell? ⟨N, j, none⟩ = (W2.setCells N ((i + 1) * 5) (mvs (l.drop i))).cell? ⟨N, j, none⟩ := World.cell?_of_block (w := W2.setCells N ((i + 1) * 5) (mvs (l.drop i))) (a := ⟨N, j, none⟩) h6
    rw [e3, ins_cells l i (by omega) m j]
    have hsome2 : ∀ t, t < (n + 1) * 5 → (W2.cell? ⟨N, t, none⟩).isSome = true := fun t ht => by
      rw [hW2]; exact isSome_setCells _ _ _ _ (fun t ht => hN1 _ (by rw [hml] at ht; omega)) _ (hN1 _ ht)
    split
    · rename_i hj1
      rw [World.cell?_setCells_out _ _ _ _ _ (fun _ _ => .inl (by show j < _; omega)), hW2, World.cell?_setCells_out _ _ _ _ _ (fun _ _ => .inl (by show j < _; omega)), cell_of_block hB1, hRlow j hj1]
    · rename_i hj1
      split
      · rename_i hj2
        rw [World.cell?_setCells_out _ _ _ _ _ (fun _ _ => .inl (by show j < _; omega)), hW2]
        have := World.cell?_setCells_in N (mcells m) (i * 5) W1 (fun t ht => hN1 _ (by rw [hml] at ht; omega)) (j - i * 5) (by rw [hml]; omega)
        rw [show i * 5 + (j - i * 5) = j by omega] at this
        rw [this, List.getElem?_eq_getElem (by rw [hml]; omega)]
      · rename_i hj2
        have := World.cell?_setCells_in N (mvs (l.drop i)) ((i + 1) * 5) W2 (fun t ht => hsome2 _ (by rw [hd0] at ht; omega)) (j - (i + 1) * 5) (by rw [hd0]; omega)
        rw [show (i + 1) * 5 + (j - (i + 1) * 5) = j by omega] at this
        rw [this, List.getElem?_eq_getElem (by rw [hd0]; omega)])
  have hGi : ¬ (G = i) := by omega
  have hGim : ¬ (G = i + 1) := by omega
  have hci : ¬ (cap = i) := by omega
  have hw1 : IntKind.i64.wrap ((i : Int) + 1) = (i : Int) + 1 := IntWalk.i64_in _ (by omega)
  have hw2 : IntKind.i64.wrap ((n : Int) + 1) = (n : Int) + 1 := IntWalk.i64_in _ (by omega)
  have hw3 : IntKind.i64.wrap ((n : Int) + 1 - (i : Int)) = (n : Int) + 1 - (i : Int) := IntWalk.i64_in _ (by omega)
  have hb1 : (0 : Int) ≤ (i : Int) + 1 := by omega
  have hin : i ≤ n := by omega
  have hin' : ¬ ((i : Int) = (n : Int)) := by omega
  have htn : ((i : Int) + 1).toNat = i + 1 := by omega
  have hb3 : (i : Int) ≤ (n : Int) := by omega
  have hb4 : (i : Int) + 1 ≤ (n : Int) + 1 := by omega
  have hcapn : (cap : Int) < (n : Int) + 1 := by omega
  have hA := hid (fun ty dc => (hcpA W1 (fun _ => rfl) (fun _ => rfl) ty dc).trans (by rw [← hW2]))
  have hB := hid (hcpB W2.drew (fun _ => rfl) (fun _ => rfl))
  have HW3 := hid (show InsP base (.slice (some ⟨g, 0, none⟩) n cap) (l.take i ++ [m] ++ l.drop i) w (.returned (.slice (some ⟨N, 0, none⟩) (n + 1) G)) (W2.drew.setCells N ((i + 1) * 5) (mvs (l.drop i))) from by
    have e := drew_setCells N (mvs (l.drop i)) ((i + 1) * 5) W2
    have hk2 := grownBy_setCells N (mcells m) (i * 5) W1
    rw [← hW2] at hk2
    have hk3 := grownBy_setCells N (mvs (l.drop i)) ((i + 1) * 5) W2
    refine Hfin.out _ (fun k hk => ?_) ?_ ?_ ?_ ?_ ?_
    · rw [← e]
      show (W2.setCells N ((i + 1) * 5) (mvs (l.drop i))).heap[k]? = _
      by_cases hkl : k < W1.heap.size
      · exact (hk3.block k (Nat.lt_of_lt_of_le hkl hk2.size) (fun h => hk (Option.some.inj h))).trans (hk2.block k hkl (fun h => hk (Option.some.inj h)))
      · rw [Array.getElem?_eq_none (by have := setCells_size N (mvs (l.drop i)) ((i + 1) * 5) W2; have := setCells_size N (mcells m) (i * 5) W1; rw [← hW2] at this; omega), Array.getElem?_eq_none (by omega)]
    · rw [← e]; exact hk3.os.trans (hk2.os.trans hP1.os)
    · rw [← e]; exact hk3.tape.trans (hk2.tape.trans hP1.tape)
    · rw [← e]; exact hk3.output.trans (hk2.output.trans hP1.output)
    · rw [← e]; exact Nat.le_trans hk2.size hk3.size
    · rw [← e]; rfl)
  generalize l.take i ++ [m] ++ l.drop i = L at *
  clear hkk hik hRs hRlow hcs hcs1 hd1 hd0 ht0 e0 hn hcpA hcpB hW1 hW2 hN hu1 hN1 hNf hB1 hP1 Hfin hGm hGn hcur hb hu
  go_enter Tryz.func58, Tryz.ntmps58
  have hA := hA.out
  go_wp2_with (first
    | (at_builtin; refine Lib.wpList_append_run _ rfl _ _ _ _ rfl _ _ rfl rfl _ _ (hrz _) ?_)
    | (at_builtin; refine wpList_copy_runI _ rfl _ _ 22 22 rfl _ _ rfl rfl (hA _ _) ?_))
  go_region_law (refine step_copy_runI rfl _ _ 22 22 rfl (.slice (some ⟨N, (i + 1) * 5, none⟩) (n + 1 - (i + 1)) (G - (i + 1))) (.slice (some ⟨g, i * 5, none⟩) (n - i) (cap - i)) (by simp [Act.eval, Act.put]) (by simp [Act.eval, Act.put]) (hB.out 3 (G - (i + 1)) (cap - i)) ?_)
  go_wp2
  go_ret
  exact HW3.out

set_option maxRecDepth 100000 in
set_option maxHeartbeats 8000000 in
theorem ins_shift (base g cap : Nat) (cur : Array Value) (l : List Msg) (i : Nat) (m : Msg) (ub uc : Nat) (w : World) (hi : i < l.length) (hl : l.length ≤ 100000) (hb : w.heap[g]? = some (.cells cur 41 (0, 0))) (hg : base ≤ g) (hroom : l.length + 1 ≤ cap) (hcm : cap ≤ maxLen) (hcz : cur.size = cap * 5) (hcur : cur.toList.take (l.length * 5) = mvs l)
    (hu : MBx ub m w) (hne : ub ≠ g) :
    Calls Tryz.prog 58 #[.slice (some ⟨g, 0, none⟩) l.length cap, .int .i64 i, .slice (some ⟨ub, 0, none⟩) 1 uc] w (InsP base (.slice (some ⟨g, 0, none⟩) l.length cap) (l.take i ++ [m] ++ l.drop i) w) := by
  obtain ⟨i0, hi0, hz0, hzs, hzb⟩ := info_parts infoMsg
  have hsz : (Tryz.prog.info? 41).map (·.size) = some 5 := by rw [hi0]; simp [hzs]
  generalize hn : l.length = n at *
  have hcs : ∀ j v, (mvs l)[j]? = some v → w.cell? ⟨g, j, none⟩ = some v := fun j v hj => by
    rw [cell_of_block hb, ← hj, ← hcur, List.getElem?_take]
    have : j < n * 5 := by have := (List.getElem?_eq_some_iff.1 hj).1; rw [mvs_len, hn] at this; exact this
    rw [if_pos this]; simp
  have ht0 : (mvs (l.take i)).length = i * 5 := by rw [mvs_len, List.length_take]; omega
  have hd0 : (mvs (l.drop i)).length = (n - i) * 5 := by rw [mvs_len, List.length_drop, hn]
  have e0 : mvs l = mvs (l.take i) ++ mvs (l.drop i) := by rw [← mvs_append, List.take_append_drop]
  have hml : (mcells m).length = 5 := rfl
  have hm1 : ∀ v ∈ mcells m, v.oneCell' = true := fun v hv => mvs_one [m] v (by simpa [mvs] using hv)
  have hsome : ∀ j, j < (n + 1) * 5 → (w.cell? ⟨g, j, none⟩).isSome = true := fun j hj => by
    rw [cell_of_block hb, Array.getElem?_eq_getElem (by rw [hcz]; omega)]; rfl
  have hfz : ∀ j, w.frozen? ⟨g, j, none⟩ = false := fun j => free_of_block hb j
  have hd1 : ∀ j v, (mvs (l.drop i))[j]? = some v → (mvs l)[i * 5 + j]? = some v := fun j v hj => by
    rw [e0, List.getElem?_append_right (by omega), ht0, Nat.add_sub_cancel_left]; exact hj
  have hov : ∀ lb cb, (callFunc 96 #[.slice (some ⟨ub, 0, none⟩) 1 uc, .slice (some ⟨g, (i + 1) * 5, none⟩) lb cb]).run Tryz.prog w = .ok (.value (.bool false)) w := fun lb cb => by
    rw [run_callFunc_extern Tryz.func96 (by kernel_rfl) (by kernel_rfl) (by kernel_rfl) (e := Extern.SlicesOverlaps.overlaps #[22, 22] #[4]) (by kernel_rfl),
      Lib.run_overlaps_apart w 22 4 41 Tryz.underlying22 5 sizeMsg ⟨ub, 0, none⟩ ⟨g, (i + 1) * 5, none⟩ 1 uc lb cb hne 41 41 (mcells m).toArray.size cur.size (by have e : w.heap[ub]? = some (.cells (mcells m).toArray 41 (0, 0)) := hu; simp [World.shape?, e]) (by simp [World.shape?, hb]) (by rw [hcz]; omega) (free_of_block hu 0) (free_of_block hu _)]
    rfl
  have hcp1 : ∀ ty dc sc, (Builtin.copy_ #[22, 22] ty #[.slice (some ⟨g, (i + 1) * 5, none⟩) (n + 1 - (i + 1)) dc, .slice (some ⟨g, i * 5, none⟩) (n + 1 - i) sc]).run Tryz.prog w.drew = .ok (goInt ((n - i : Nat) : Int)) (w.drew.setCells g ((i + 1) * 5) (mvs (l.drop i))) := fun ty dc sc =>
    run_copy_z w.drew _ _ ty 41 5 g ((i + 1) * 5) (n + 1 - (i + 1)) dc ⟨g, i * 5, none⟩ (n + 1 - i) sc (n - i) (mvs (l.drop i)) Tryz.underlying22 hsz (by simp only [Nat.min_def]; split <;> omega) hd0
      (fun j v hj => by rw [Addr.add_lit]; exact hcs _ v (hd1 j v hj))
      (fun j hj => hsome _ (by rw [hd0] at hj; omega)) (fun j hj => hfz _) (fun v hv => mvs_one _ v hv)
  obtain ⟨W1, hW1⟩ : ∃ W1, W1 = w.drew.setCells g ((i + 1) * 5) (mvs (l.drop i)) := ⟨_, rfl⟩
  rw [← hW1] at hcp1
  obtain ⟨c1, hb1, hs1⟩ := blk_setCells g 41 (mvs (l.drop i)) ((i + 1) * 5) w.drew cur hb
  rw [← hW1] at hb1
  have hsome1 : ∀ j, j < (n + 1) * 5 → (W1.cell? ⟨g, j, none⟩).isSome = true := fun j hj => by
    rw [cell_of_block hb1, Array.getElem?_eq_getElem (by rw [hs1, hcz]; omega)]; rfl
  have hcp2 : ∀ ty dc, (Builtin.copy_ #[22, 22] ty #[.slice (some ⟨g, i * 5, none⟩) (n + 1 - i) dc, .slice (some ⟨ub, 0, none⟩) 1 uc]).run Tryz.prog W1 = .ok (goInt 1) (W1.setCells g (i * 5) (mcells m)) := fun ty dc =>
    run_copy_z W1 _ _ ty 41 5 g (i * 5) (n + 1 - i) dc ⟨ub, 0, none⟩ 1 uc 1 (mcells m) Tryz.underlying22 hsz (by simp only [Nat.min_def]; split <;> omega) rfl
      (fun j v hj => by
        rw [Addr.add_lit, Nat.zero_add, hW1, World.cell?_setCells_out _ _ _ _ _ (fun h _ => absurd h hne)]
        exact hu.cell hj)
      (fun j hj => hsome1 _ (by rw [hml] at hj; omega)) (fun j hj => free_of_block hb1 _) hm1
  obtain ⟨W2, hW2⟩ : ∃ W2, W2 = W1.setCells g (i * 5) (mcells m) := ⟨_, rfl⟩
  rw [← hW2] at hcp2
  have HW2 := hid (show InsP base (.slice (some ⟨g, 0, none⟩) n cap) (l.take i ++ [m] ++ l.drop i) w (.returned (.slice (some ⟨g, 0, none⟩) (n + 1) cap)) W2 from by
    obtain ⟨c2, hb2, hs2⟩ := blk_setCells g 41 (mcells m) (i * 5) W1 c1 hb1
    rw [← hW2] at hb2
    have hL : (l.take i ++ [m] ++ l.drop i).length = n + 1 := by simp [List.length_take, List.length_drop]; omega
    have k0 := grown_of_pure (some g) ((Below.refl w.heap.size w).drew)
    have k1 := grownBy_setCells g (mvs (l.drop i)) ((i + 1) * 5) w.drew
    rw [← hW1] at k1
    have k2 := grownBy_setCells g (mcells m) (i * 5) W1
    rw [← hW2] at k2
    refine ⟨_, rfl, ?_, grown_trans k0 (grown_trans k1 k2)⟩
    rw [hL]
    refine own_of_cells (cur := c2) hg hb2 hroom hcm (by rw [hs2, hs1, hcz]) (by rw [mvs_len, hL]) (fun j hj => ?_)
    rw [ins_cells l i (by omega) m j]
    split
    · rename_i hj1
      rw [hW2, World.cell?_setCells_out _ _ _ _ _ (fun _ _ => .inl (by show j < _; omega)), hW1, World.cell?_setCells_out _ _ _ _ _ (fun _ _ => .inl (by show j < _; omega))]
      have hjl : j < (mvs l).length := by rw [mvs_len, hn]; omega
      rw [List.getElem?_eq_getElem hjl]
      exact hcs j _ (List.getElem?_eq_getElem hjl)
    · rename_i hj1
      split
      · rename_i hj2
        have := World.cell?_setCells_in g (mcells m) (i * 5) W1 (fun t ht => hsome1 _ (by rw [hml] at ht; omega)) (j - i * 5) (by rw [hml]; omega)
        rw [show i * 5 + (j - i * 5) = j by omega, ← hW2] at this
        rw [this, List.getElem?_eq_getElem (by rw [hml]; omega)]
      · rename_i hj2
        rw [hW2, World.cell?_setCells_out _ _ _ _ _ (fun _ _ => .inr (by show _ ≤ j; rw [hml]; omega)), hW1]
        have := World.cell?_setCells_in g (mvs (l.drop i)) ((i + 1) * 5) w.drew (fun t ht => hsome _ (by rw [hd0] at ht; omega)) (j - (i + 1) * 5) (by rw [hd0]; omega)
        rw [show (i + 1) * 5 + (j - (i + 1) * 5) = j by omega] at this
        rw [this, List.getElem?_eq_getElem (by rw [hd0]; omega)])
  have hcm' : cap ≤ 9223372036854775807 := hcm
  have hgi : ¬ (cap = i) := by omega
  have hgim : ¬ (cap = i + 1) := by omega
  have hw1 : IntKind.i64.wrap ((i : Int) + 1) = (i : Int) + 1 := IntWalk.i64_in _ (by omega)
  have hw2 : IntKind.i64.wrap ((n : Int) + 1) = (n : Int) + 1 := IntWalk.i64_in _ (by omega)
  have hb0 : (0 : Int) ≤ (i : Int) + 1 := by omega
  have hbn : (0 : Int) ≤ (n : Int) + 1 := by omega
  have hin : i ≤ n := by omega
  have hin' : ¬ ((i : Int) = (n : Int)) := by omega
  have htn : ((i : Int) + 1).toNat = i + 1 := by omega
  have htn2 : ((n : Int) + 1).toNat = n + 1 := by omega
  have hb3 : (i : Int) ≤ (n : Int) := by omega
  have hb4 : (i : Int) + 1 ≤ (n : Int) + 1 := by omega
  have hb5 : (i : Int) ≤ (n : Int) + 1 := by omega
  have hcapn : ¬ (cap : Int) < (n : Int) + 1 := by omega
  have hcapn2 : (n : Int) + 1 ≤ (cap : Int) := by omega
  have Hcp1 := hid hcp1
  generalize l.take i ++ [m] ++ l.drop i = L at *
  clear hcp1 hcs ht0 hd0 e0 hsome hfz hd1 hW1 hW2 hb1 hs1 hsome1 hb hu hcz hcur hn hcm hm1 hml hz0 hi0 hzs hzb
  go_enter Tryz.func58, Tryz.ntmps58
  go_wp2_with (simp only [hov])
  go_region_law (refine step_copy_runI rfl _ _ 22 22 rfl (.slice (some ⟨g, (i + 1) * 5, none⟩) (n + 1 - (i + 1)) (cap - (i + 1))) (.slice (some ⟨g, i * 5, none⟩) (n + 1 - i) (cap - i)) (by simp [Act.eval, Act.put]) (by simp [Act.eval, Act.put]) (Hcp1.out 3 (cap - (i + 1)) (cap - i)) ?_)
  go_wp2
  go_ret
  exact HW2.out

/-- slices.Insert of a message that lies in a box of its own, anywhere in an owned row. -/
theorem ins_any (base : Nat) (v : Value) (l : List Msg) (i : Nat) (m : Msg) (ub uc : Nat) (w : World) (h : w.ownsRow base 41 5 v l.length (mvs l)) (hi : i ≤ l.length) (hl : l.length ≤ 100000) (hu : MBx ub m w) (huc : uc = 1) (hne : v.ownBlock ≠ some ub) (hbase : base ≤ w.heap.size) :
    Calls Tryz.prog 58 #[v, .int .i64 i, .slice (some ⟨ub, 0, none⟩) 1 uc] w (InsP base v (l.take i ++ [m] ++ l.drop i) w) := by
  by_cases he : i = l.length
  · subst he
    subst huc
    rw [List.take_length, List.drop_length, List.append_nil]
    refine ins_end base v l m _ w h hl ⟨by simp [mvs, mcells], _, _, rfl, Nat.le_refl _, by unfold maxLen; omega, .inr ⟨ub, 0, rfl, lt_of_block hu, fun j hj => ?_⟩⟩ hbase
    rw [Nat.zero_add, cell_of_block hu]
    simp [mvs]
  · obtain ⟨hln, ⟨_, h0⟩ | ⟨g, cap, cur, rfl, hg, hb, h1, h2, h3, h4⟩⟩ := h
    · omega
    · by_cases hroom : cap < l.length + 1
      · exact ins_grow base g cap cur l i m ub uc w (by omega) hl hb h1 hroom h4 hu hbase
      · exact ins_shift base g cap cur l i m ub uc w (by omega) hl hb hg (by omega) h2 h3 h4 hu (fun e => hne (by simp [Value.ownBlock, e]))
end Go.Proofs.YtbcbmnifbflmaaaGreat

namespace Go.Proofs.YtbcbmnifbflmaaaGreat
open Go.RowKit Go.Maps Go.Shelf Go.Sort

theorem MBx.pure {n : Nat} {m : Msg} {w w' : World} (h : MBx n m w) (hp : Pure w w') : MBx n m w' := (hp.block n (lt_of_block h)).trans h
theorem RPutW.grown {s : Nat} {w5 W W' : World} {row : Option Nat} {b : Nat} (h : RPutW s w5 W) (hg : W.grownBy W' row) (hb : w5.heap.size ≤ b) (hr : ∀ j, row = some j → b ≤ j) (hs : s + 3 ≤ w5.heap.size) : RPutW s w5 W' := by
  obtain ⟨hk, t0, t1, t2, he⟩ := h
  refine ⟨⟨hg.os.trans hk.os, hg.tape.trans hk.tape, hg.output.trans hk.output, Nat.le_trans hk.size hg.size, fun k hk' hS => (hg.block k (Nat.lt_of_lt_of_le hk' hk.size) (fun e => by have := hr k e.symm; omega)).trans (hk.block k hk' hS)⟩, t0, t1, t2, (hg.block _ (lt_of_block he) (fun e => by have := hr _ e.symm; omega)).trans he⟩
theorem fk_le (l : List Msg) (d : Dot) : fk l d ≤ l.length := List.findIdx_le_length
/-- Where a message is put: it is the document's sorted row. -/
theorem fk_take {l : List Msg} {d : Dot} (h : MR l) (hn : ∀ m ∈ l, m.1 ≠ d) : (∀ m ∈ l.take (fk l d), DL m.1 d) ∧ ∀ m ∈ l.drop (fk l d), DL d m.1 := by
  constructor
  · intro m hm
    rw [List.mem_take_iff_getElem] at hm
    obtain ⟨j, hj, rfl⟩ := hm
    have h3 := List.not_of_lt_findIdx (p := fun m : Msg => !dlt m.1 d) (xs := l) (i := j) (by unfold fk at hj; omega)
    have h4 : dlt (l[j]'(by omega)).1 d = true := by simpa using h3
    exact dlt_iff.1 h4
  · intro m hm
    obtain ⟨j, hj, rfl⟩ := List.getElem_of_mem hm
    rw [List.length_drop] at hj
    have hk : fk l d < l.length := by omega
    have h2 : (!dlt (l[fk l d]'hk).1 d) = true := List.findIdx_getElem (p := fun m : Msg => !dlt m.1 d) (xs := l) (w := hk)
    have h0 : DL d (l[fk l d]'hk).1 := by
      have hf : dlt (l[fk l d]'hk).1 d = false := by simpa using h2
      rw [dlt_false] at hf
      rcases DL.tri (l[fk l d]'hk).1 d with e | e | e
      · exact absurd e hf
      · exact absurd e (hn _ (List.getElem_mem hk))
      · exact e
    rw [List.getElem_drop]
    by_cases h1 : j = 0
    · subst h1; simpa using h0
    · exact h0.trans (List.pairwise_iff_getElem.1 h (fk l d) (fk l d + j) hk (by omega) (by omega))
theorem ins_sorted {l : List Msg} {m : Msg} (h : MR l) (hn : ∀ x ∈ l, x.1 ≠ m.1) : l.take (fk l m.1) ++ [m] ++ l.drop (fk l m.1) = msort (l ++ [m]) := by
  obtain ⟨h1, h2⟩ := fk_take h hn
  have hm : MR (l.take (fk l m.1) ++ [m] ++ l.drop (fk l m.1)) := by
    unfold MR
    rw [List.append_assoc, List.pairwise_append]
    refine ⟨List.Pairwise.sublist (List.take_sublist _ _) h, ?_, ?_⟩
    · rw [List.singleton_append, List.pairwise_cons]
      exact ⟨fun a ha => h2 a ha, List.Pairwise.sublist (List.drop_sublist _ _) h⟩
    · intro a ha b hb
      rcases List.mem_append.1 hb with hb | hb
      · simp only [List.mem_singleton] at hb; subst hb; exact h1 a ha
      · exact (h1 a ha).trans (h2 b hb)
  have hd : MD (l ++ [m]) := by
    unfold MD
    rw [List.pairwise_append]
    refine ⟨h.md, List.pairwise_singleton _ _, fun a ha b hb => ?_⟩
    simp only [List.mem_singleton] at hb
    subst hb
    exact hn a ha
  refine mr_eq hm (msort_rise hd) (fun d => ?_)
  rw [msort_mem, List.mem_append, List.mem_append, List.mem_append]
  have : d ∈ l ↔ d ∈ l.take (fk l m.1) ∨ d ∈ l.drop (fk l m.1) := by rw [← List.mem_append, List.take_append_drop]
  rw [this]
  constructor
  · rintro ((h | h) | h)
    · exact .inl (.inl h)
    · exact .inr h
    · exact .inl (.inr h)
  · rintro ((h | h) | h)
    · exact .inl (.inl h)
    · exact .inr h
    · exact .inl (.inr h)
/-- What Put answers. -/
def putR (g : Bag) (m : Msg) : Bag × Int := if mmay m then (if chas g.2.1 g.2.2 m.1 then (([], [], []), 13) else (bput g m, 0)) else (([], [], []), 1)

set_option maxRecDepth 8000 in
set_option maxHeartbeats 8000000 in
theorem sput_any (v0 v1 v2 : Value) (g : Bag) (m : Msg) (w : World) (hr : BR3 v0 v1 v2 g w) (hg : BV g) (hl0 : g.1.length ≤ 10000) (hl : g.2.1.length + g.2.2.length ≤ 900) :
    Calls Tryz.prog 19 #[.agg #[v0, v1, v2], mv m] w (BagT w (putR g m).1 (putR g m).2) := by
  have hlt := hr.lt
  have hj := hid (JOk.of_ok hg.ok)
  have HR2 := hid (show mmay m = true → chas g.2.1 g.2.2 m.1 = false → putR g m = ((g.1.take (fk g.1 m.1) ++ [m] ++ g.1.drop (fk g.1 m.1), cjoin g.2.1 g.2.2 [] (dsort ([m.1].filter dchk))), 0) from fun e1 e2 => by
    unfold putR
    rw [if_pos e1, if_neg (by rw [e2]; simp)]
    rw [ins_sorted hg.r (fun x hx e => by have := hg.seen x hx; rw [e, e2] at this; cases this)]
    rfl)
  have HR0 := hid (show mmay m = false → putR g m = (([], [], []), 1) from fun e => by unfold putR; rw [e]; rfl)
  have HR1 := hid (show mmay m = true → chas g.2.1 g.2.2 m.1 = true → putR g m = (([], [], []), 13) from fun e1 e2 => by unfold putR; rw [if_pos e1, if_pos e2])
  have hxk := fk_le g.1 m.1
  have hokc := hg.ok
  obtain ⟨L, B, C⟩ := g
  obtain ⟨hL, hB, hC⟩ := hr
  dsimp only at hL hB hC hlt hl0 hl hj HR2 HR0 HR1 hxk hokc
  obtain ⟨al, cl, rfl⟩ := hL.shape
  obtain ⟨ab, cb, rfl⟩ := hB.shape
  obtain ⟨ac, cc, rfl⟩ := hC.shape
  generalize hPR : putR (L, B, C) m = PR at *
  have hmay := hid (fun W => mmayg_any m W)
  obtain ⟨⟨x, y⟩, q, b, c⟩ := m
  dsimp only at HR2 HR0 HR1 hxk
  generalize mmay ((x, y), q, b, c) = D1 at *
  unfold mv at *
  dsimp only at *
  obtain ⟨wz, hwz⟩ : ∃ wz, wz = ((w.alloc (.cells #[.slice al L.length cl, .slice ab B.length cb, .slice ac C.length cc] 33)).alloc (.cells #[.int .i64 x, .int .i64 y, .string (bs q), .string (bs b), .int .i64 c] 41)).alloc (.cells #[.slice none 0 0, .slice none 0 0, .slice none 0 0] 33) := ⟨_, rfl⟩
  have Hpz := hid (show Pure w wz from by rw [hwz]; exact (((Below.refl _ _).alloc (Nat.le_refl _) _).alloc (by simp) _).alloc (by simp; omega) _)
  have Hsz := hid (show wz.heap.size = w.heap.size + 3 from by rw [hwz]; simp)
  have hbk : Hid (wz.heap[w.heap.size]? = some (.cells #[.slice al L.length cl, .slice ab B.length cb, .slice ac C.length cc] 33 (0, 0)) ∧ MX (w.heap.size + 1) ((x, y), q, b, c) wz ∧ RsB (w.heap.size + 2) wz) := by
    show _ ∧ _ ∧ _
    have n0 := block_alloc_new w (.cells #[.slice al L.length cl, .slice ab B.length cb, .slice ac C.length cc] 33)
    have n1 := block_alloc_new (w.alloc (.cells #[.slice al L.length cl, .slice ab B.length cb, .slice ac C.length cc] 33)) (.cells #[.int .i64 x, .int .i64 y, .string (bs q), .string (bs b), .int .i64 c] 41)
    have n2 := block_alloc_new ((w.alloc (.cells #[.slice al L.length cl, .slice ab B.length cb, .slice ac C.length cc] 33)).alloc (.cells #[.int .i64 x, .int .i64 y, .string (bs q), .string (bs b), .int .i64 c] 41)) (.cells #[.slice none 0 0, .slice none 0 0, .slice none 0 0] 33)
    rw [World.size_alloc] at n1
    rw [World.size_alloc, World.size_alloc] at n2
    rw [hwz]
    exact ⟨block_alloc_old (block_alloc_old n0 _) _, ⟨block_alloc_old n1 _⟩, n2⟩
  have HC : Hid (∀ W, Pure wz W → (W.cell? ⟨w.heap.size, 0, none⟩ = some (.slice al L.length cl) ∧ W.cell? ⟨w.heap.size, 1, none⟩ = some (.slice ab B.length cb) ∧ W.cell? ⟨w.heap.size, 2, none⟩ = some (.slice ac C.length cc) ∧ W.cell? ⟨w.heap.size + 1, 0, none⟩ = some (.int .i64 x) ∧ W.cell? ⟨w.heap.size + 1, 1, none⟩ = some (.int .i64 y) ∧ W.cell? ⟨w.heap.size + 1, 2, none⟩ = some (.string (bs q)) ∧ W.cell? ⟨w.heap.size + 1, 3, none⟩ = some (.string (bs b)) ∧ W.cell? ⟨w.heap.size + 1, 4, none⟩ = some (.int .i64 c))) := fun W hW => by
    have e := (hW.block _ (lt_of_block hbk.out.1)).trans hbk.out.1
    obtain ⟨g0, g1, g2, g3, g4⟩ := (hbk.out.2.1.pure hW).cells
    exact ⟨cell_of_block e 0, cell_of_block e 1, cell_of_block e 2, g0, g1, g2, g3, g4⟩
  have HX := hid (fun W (hW : Pure wz W) => (show Msgs W (.slice al L.length cl) L ∧ Dots W (.slice ab B.length cb) B ∧ Dots W (.slice ac C.length cc) C from ⟨Row.pure hL (Hpz.out.then_ hW), Row.pure hB (Hpz.out.then_ hW), Row.pure hC (Hpz.out.then_ hW)⟩))
  have hhas := hid (fun W (hW : Pure wz W) => has_any (.slice ab B.length cb) (.slice ac C.length cc) B C (x, y) W (HX.out W hW).2.1 (HX.out W hW).2.2 (br_rise hokc.br) hokc.cr (fun d hd => by have := hokc.bok d hd; unfold dok at this; omega) (by omega) (by omega))
  have hfind := hid (fun W (hW : Pure wz W) => sfind_any (.slice al L.length cl) L (x, y) W (HX.out W hW).1)
  unfold cv at hhas
  unfold dv at hhas hfind
  dsimp only at hhas hfind
  generalize chas B C (x, y) = D2 at *
  have Hlt := hid hlt
  have HlL := hid (show L.length ≤ 100000 from by omega)
  have Hl := hid (And.intro hl0 hl)
  clear hL hB hC hlt hl0 hl hokc hPR
  obtain ⟨f0, f1, f2, g0, g1, g2, g3, g4⟩ := HC.out wz (Below.refl _ _)
  rw [hwz] at f0 f1 f2 g0 g1 g2 g3 g4
  have HZ := hid (fun W (hW : Pure wz W) => show (W.cell? ⟨w.heap.size + 1 + 1, 0, none⟩ = some (.slice none 0 0) ∧ W.cell? ⟨w.heap.size + 1 + 1, 1, none⟩ = some (.slice none 0 0) ∧ W.cell? ⟨w.heap.size + 1 + 1, 2, none⟩ = some (.slice none 0 0) ∧ W.frozen? ⟨w.heap.size + 1 + 1, 0, none⟩ = false ∧ W.frozen? ⟨w.heap.size + 1 + 1, 1, none⟩ = false ∧ W.frozen? ⟨w.heap.size + 1 + 1, 2, none⟩ = false) from by
    have e := (hW.block _ (lt_of_block hbk.out.2.2)).trans hbk.out.2.2
    exact ⟨cell_of_block e 0, cell_of_block e 1, cell_of_block e 2, free_of_block e 0, free_of_block e 1, free_of_block e 2⟩)
  have HZF := hid (fun W (hW : Pure wz W) => put_fin (w := w) (w5 := W) (wL := W) (v7 := .slice none 0 0) (v0 := .slice none 0 0) (v1 := .slice none 0 0) (M := []) (B := []) (C := []) (bs7 := W.heap.size) (b8 := W.heap.size) (Hpz.out.then_ hW) (by have := hW.size; have := Hsz.out; omega) ⟨Kept.refl _ _, _, _, _, (hW.block _ (lt_of_block hbk.out.2.2)).trans hbk.out.2.2⟩ (World.ownsRow_nil _ _ _ _) (Nat.le_refl _) (Row.nil _ _) (Row.nil _ _) (Nat.le_refl _) (fun k hk => by simp [Value.rb] at hk) (fun k hk => by simp [Value.rb] at hk))
  cases D1 with
  | false =>
    have HR := hid (show PR = (([], [], []), 1) from HR0.out rfl)
    go_enter Tryz.func19, Tryz.ntmps19
    go_wp2_with fail
    rw [← hwz]
    clear hwz f0 f1 f2 g0 g1 g2 g3 g4
    refine (hmay.out wz).mono ?_
    rintro e w1 ⟨rfl, hp1⟩
    have HF := hid (HZF.out w1 hp1)
    obtain ⟨r0, r1, r2, u0, u1, u2⟩ := HZ.out w1 hp1
    clear hp1
    go_wp2
    refine bodyPost_ret (v := .tuple #[.agg #[.slice none 0 0, .slice none 0 0, .slice none 0 0], .int .i64 1]) (by simp [results, Tryz.results19, go_sem, HF.out.1, HF.out.2.1, HF.out.2.2.1]) rfl ?_
    rw [HR.out]
    exact ⟨_, _, _, rfl, BR3.of HF.out.2.2.2.1, HF.out.2.2.2.2.1, BFr.nil _⟩
  | true =>
  cases D2 with
  | true =>
    have HR := hid (show PR = (([], [], []), 13) from HR1.out rfl rfl)
    go_enter Tryz.func19, Tryz.ntmps19
    go_wp2_with fail
    rw [← hwz]
    clear hwz f0 f1 f2 g0 g1 g2 g3 g4
    refine (hmay.out wz).mono ?_
    rintro e w1 ⟨rfl, hp1⟩
    obtain ⟨f0, f1, f2, g0, g1, g2, g3, g4⟩ := HC.out w1 hp1
    have Hp1 := hid hp1
    clear hp1
    go_wp2_with fail
    refine (hhas.out w1 Hp1.out).mono ?_
    rintro e w2 ⟨rfl, hp2⟩
    have HF := hid (HZF.out w2 (Hp1.out.then_ hp2))
    obtain ⟨r0, r1, r2, u0, u1, u2⟩ := HZ.out w2 (Hp1.out.then_ hp2)
    clear hp2 f0 f1 f2 g0 g1 g2 g3 g4
    go_wp2
    refine bodyPost_ret (v := .tuple #[.agg #[.slice none 0 0, .slice none 0 0, .slice none 0 0], .int .i64 13]) (by simp [results, Tryz.results19, go_sem, HF.out.1, HF.out.2.1, HF.out.2.2.1]) rfl ?_
    rw [HR.out]
    exact ⟨_, _, _, rfl, BR3.of HF.out.2.2.2.1, HF.out.2.2.2.2.1, BFr.nil _⟩
  | false =>
    have HR := hid (HR2.out rfl rfl)
    generalize fk L (x, y) = ix at *
    generalize fb L (x, y) = fbb at *
    have Hix := hid hxk
    have HLn := hid (show (L.take ix ++ [((x, y), q, b, c)] ++ L.drop ix).length = (L.take ix ++ [((x, y), q, b, c)] ++ L.drop ix).length from rfl)
    generalize hNL : L.take ix ++ [((x, y), q, b, c)] ++ L.drop ix = NL at *
    have HNL := hid hNL
    clear hNL hxk HLn
    go_enter Tryz.func19, Tryz.ntmps19
    go_wp2_with fail
    rw [← hwz]
    clear hwz f0 f1 f2 g0 g1 g2 g3 g4
    refine (hmay.out wz).mono ?_
    rintro e w1 ⟨rfl, hp1⟩
    obtain ⟨f0, f1, f2, g0, g1, g2, g3, g4⟩ := HC.out w1 hp1
    have Hp1 := hid hp1
    clear hp1
    go_wp2_with fail
    refine (hhas.out w1 Hp1.out).mono ?_
    rintro e w2 ⟨rfl, hp2⟩
    have Hp2 := hid (Hp1.out.then_ hp2)
    clear hp2 f0 f1 f2 g0 g1 g2 g3 g4
    obtain ⟨f0, f1, f2, g0, g1, g2, g3, g4⟩ := HC.out w2 Hp2.out
    go_wp2_with fail
    refine (hfind.out w2 Hp2.out).mono ?_
    rintro e w5 ⟨rfl, hp5⟩
    have Hp5 := hid (Hp2.out.then_ hp5)
    clear f0 f1 f2 g0 g1 g2 g3 g4 hp5
    have hz5 := hid (Hpz.out.then_ Hp5.out)
    have Hs5 := hid (show w.heap.size + 3 ≤ w5.heap.size from by have := Hp5.out.size; have := Hsz.out; omega)
    have HQ5 := hid (show RPutW w.heap.size w5 w5 from ⟨Kept.refl _ _, _, _, _, (Hp5.out.block _ (lt_of_block hbk.out.2.2)).trans hbk.out.2.2⟩)
    have hS : Hid (∀ W, RPutW w.heap.size w5 W → (W.cell? ⟨w.heap.size, 0, none⟩ = some (.slice al L.length cl) ∧ W.cell? ⟨w.heap.size, 1, none⟩ = some (.slice ab B.length cb) ∧ W.cell? ⟨w.heap.size, 2, none⟩ = some (.slice ac C.length cc) ∧ W.cell? ⟨w.heap.size + 1, 0, none⟩ = some (.int .i64 x) ∧ W.cell? ⟨w.heap.size + 1, 1, none⟩ = some (.int .i64 y) ∧ W.cell? ⟨w.heap.size + 1, 2, none⟩ = some (.string (bs q)) ∧ W.cell? ⟨w.heap.size + 1, 3, none⟩ = some (.string (bs b)) ∧ W.cell? ⟨w.heap.size + 1, 4, none⟩ = some (.int .i64 c) ∧ RPutW w.heap.size w5 W)) := fun W hQ => by
      have hW := hQ.1
      have e0 := (Hp5.out.block _ (lt_of_block hbk.out.1)).trans hbk.out.1
      have e1 := hbk.out.2.1.pure Hp5.out
      have := Hs5.out
      have e2 := (hW.block _ (lt_of_block e0) (by omega)).trans e0
      have e3 := (hW.block _ (lt_of_block e1.b) (by omega)).trans e1.b
      exact ⟨cell_of_block e2 0, cell_of_block e2 1, cell_of_block e2 2, cell_of_block e3 0, cell_of_block e3 1, cell_of_block e3 2, cell_of_block e3 3, cell_of_block e3 4, hQ⟩
    have hcl := hid (fun W (hQ : RPutW w.heap.size w5 W) => mclone_any (.slice al L.length cl) L W (show Msgs W _ L from Row.kept (HX.out w5 Hp5.out).1 hQ.1 (fun k hk e => by have := Hlt.out.1 k hk; omega)) HlL.out)
    have hadd := hid (fun W v (hQ : RPutW w.heap.size w5 W) (hv : Dots W v [(x, y)]) => add_any (.slice ab B.length cb) (.slice ac C.length cc) v B C [(x, y)] W (show Dots W _ B from Row.kept (HX.out w5 Hp5.out).2.1 hQ.1 (fun k hk e => by have := Hlt.out.2.1 k hk; omega)) (show Dots W _ C from Row.kept (HX.out w5 Hp5.out).2.2 hQ.1 (fun k hk e => by have := Hlt.out.2.2 k hk; omega)) hv (by simp; have := Hl.out.2; omega) hj.out)
    unfold CtxF cv at hadd
    generalize hKK : cjoin B C [] (dsort ([(x, y)].filter dchk)) = KK at *
    obtain ⟨K1, K2⟩ := KK
    dsimp only at hadd
    clear hKK
    have hst := hid (hS.out w5.drew (HQ5.out.pure (Below.refl _ _).drew))
    have Cz := hid (fun (base : Nat) (W : World) (hb : base ≤ W.heap.size) => hb)
    obtain ⟨f0, f1, f2, g0, g1, g2, g3, g4⟩ := HC.out w5 Hp5.out
    go_wp2_with fail
    refine wp_region_held_drew (S := (fun W => W.cell? ⟨w.heap.size, 0, none⟩ = some (.slice al L.length cl) ∧ W.cell? ⟨w.heap.size, 1, none⟩ = some (.slice ab B.length cb) ∧ W.cell? ⟨w.heap.size, 2, none⟩ = some (.slice ac C.length cc) ∧ W.cell? ⟨w.heap.size + 1, 0, none⟩ = some (.int .i64 x) ∧ W.cell? ⟨w.heap.size + 1, 1, none⟩ = some (.int .i64 y) ∧ W.cell? ⟨w.heap.size + 1, 2, none⟩ = some (.string (bs q)) ∧ W.cell? ⟨w.heap.size + 1, 3, none⟩ = some (.string (bs b)) ∧ W.cell? ⟨w.heap.size + 1, 4, none⟩ = some (.int .i64 c) ∧ RPutW w.heap.size w5 W)) (by kernel_rfl) ?_ (fun hHeld => ?_)
    · exact hst.out
    obtain ⟨y0, hy0⟩ : ∃ y, y = w5.drew := ⟨_, rfl⟩
    have Q0 := hid (show RPutW w.heap.size w5 y0 from by rw [hy0]; exact HQ5.out.pure (Below.refl _ _).drew)
    rw [← hy0] at hHeld ⊢
    clear hy0
    refine wpAnyH_take (i := 0) (v := ?_) rfl (by kernel_rfl) (by kernel_rfl) (by kernel_rfl) (fun _ _ _ h => h) (Or.inl ⟨by rfl, ?_⟩) (by assumption) ?_
    rotate_left
    · intro w hSw; (try dsimp only at hSw); (try simp only [List.getElem_toArray, List.getElem_cons_zero]); go_simp; try with_reducible rfl
    try simp only [Act.put, List.setIfInBounds_toArray, List.set_cons_zero, List.set_cons_succ, List.getElem_toArray, List.getElem_cons_zero]
    refine wpAnyH_take (i := 1) (v := ?_) rfl (by kernel_rfl) (by kernel_rfl) (by kernel_rfl) (fun _ _ _ h => h) (Or.inl ⟨by rfl, ?_⟩) (by assumption) ?_
    rotate_left
    · intro w hSw; (try dsimp only at hSw); (try simp only [List.getElem_toArray, List.getElem_cons_succ, List.getElem_cons_zero]); go_simp; try with_reducible rfl
    try simp only [Act.put, List.setIfInBounds_toArray, List.set_cons_zero, List.set_cons_succ, List.getElem_toArray, List.getElem_cons_succ, List.getElem_cons_zero]
    refine wpAnyH_take (i := 3) (v := ?_) rfl (by kernel_rfl) (by kernel_rfl) (by kernel_rfl) (fun _ _ _ h => h) (Or.inl ⟨by rfl, ?_⟩) (by assumption) ?_
    rotate_left
    · intro w hSw; (try dsimp only at hSw); (try simp only [List.getElem_toArray, List.getElem_cons_succ, List.getElem_cons_zero]); go_simp; try with_reducible rfl
    try simp only [Act.put, List.setIfInBounds_toArray, List.set_cons_zero, List.set_cons_succ, List.getElem_toArray, List.getElem_cons_succ, List.getElem_cons_zero]
    refine wpAnyH_take (i := 4) (v := ?_) rfl (by kernel_rfl) (by kernel_rfl) (by kernel_rfl) (fun _ _ _ h => h) (Or.inl ⟨by rfl, ?_⟩) (by assumption) ?_
    rotate_left
    · intro w hSw; (try dsimp only at hSw); (try simp only [List.getElem_toArray, List.getElem_cons_succ, List.getElem_cons_zero]); go_simp; try with_reducible rfl
    try simp only [Act.put, List.setIfInBounds_toArray, List.set_cons_zero, List.set_cons_succ, List.getElem_toArray, List.getElem_cons_succ, List.getElem_cons_zero]
    refine wpAnyH_take (i := 7) (v := ?_) rfl (by kernel_rfl) (by kernel_rfl) (by kernel_rfl) (fun _ _ _ h => h) (Or.inl ⟨by rfl, ?_⟩) (by assumption) ?_
    rotate_left
    · intro w hSw; (try dsimp only at hSw); (try simp only [List.getElem_toArray, List.getElem_cons_succ, List.getElem_cons_zero]); go_simp; try with_reducible rfl
    try simp only [Act.put, List.setIfInBounds_toArray, List.set_cons_zero, List.set_cons_succ, List.getElem_toArray, List.getElem_cons_succ, List.getElem_cons_zero]
    refine wpAnyH_take (i := 8) (v := ?_) rfl (by kernel_rfl) (by kernel_rfl) (by kernel_rfl) (fun _ _ _ h => h) (Or.inl ⟨by rfl, ?_⟩) (by assumption) ?_
    rotate_left
    · intro w hSw; (try dsimp only at hSw); (try simp only [List.getElem_toArray, List.getElem_cons_succ, List.getElem_cons_zero]); go_simp; try with_reducible rfl
    try simp only [Act.put, List.setIfInBounds_toArray, List.set_cons_zero, List.set_cons_succ, List.getElem_toArray, List.getElem_cons_succ, List.getElem_cons_zero]
    refine wpAnyH_take (i := 9) (v := ?_) rfl (by kernel_rfl) (by kernel_rfl) (by kernel_rfl) (fun _ _ _ h => h) (Or.inl ⟨by rfl, ?_⟩) (by assumption) ?_
    rotate_left
    · intro w hSw; (try dsimp only at hSw); (try simp only [List.getElem_toArray, List.getElem_cons_succ, List.getElem_cons_zero]); go_simp; try with_reducible rfl
    try simp only [Act.put, List.setIfInBounds_toArray, List.set_cons_zero, List.set_cons_succ, List.getElem_toArray, List.getElem_cons_succ, List.getElem_cons_zero]
    refine wpAnyH_take (i := 10) (v := ?_) rfl (by kernel_rfl) (by kernel_rfl) (by kernel_rfl) (fun _ _ _ h => h) (Or.inl ⟨by rfl, ?_⟩) (by assumption) ?_
    rotate_left
    · intro w hSw; (try dsimp only at hSw); (try simp only [List.getElem_toArray, List.getElem_cons_succ, List.getElem_cons_zero]); go_simp; try with_reducible rfl
    try simp only [Act.put, List.setIfInBounds_toArray, List.set_cons_zero, List.set_cons_succ, List.getElem_toArray, List.getElem_cons_succ, List.getElem_cons_zero]
    refine wpAnyH_ready (rs := [2, 5, 11]) (by kernel_rfl) (by simp) ?_
    refine AllReadyH.cons rfl (fun K hK => ?_) ?_
    (try simp only [List.getElem_toArray, List.getElem_cons_succ, List.getElem_cons_zero])
    go_simp
    go_at_call 41; refine (hcl.out _ Q0.out).mono ?_; rintro e y1 ⟨v6, rfl, hown, hp⟩; obtain ⟨a6, c6, rfl⟩ := own_shape_d hown; have QQ := hid (Q0.out.pure hp)
    refine hK.out _ _ ?_ (fun hHeld => ?_)
    · exact hS.out _ QQ.out
    clear hK K
    try simp only [Act.put, List.setIfInBounds_toArray, List.set_cons_zero, List.set_cons_succ, List.getElem_toArray, List.getElem_cons_succ, List.getElem_cons_zero]
    have C1 := hid hown
    have Cb := hid (show w5.heap.size ≤ y0.heap.size from Q0.out.1.size)
    have E1 := hid (show y0.heap.size ≤ y1.heap.size from hp.size)
    clear hown QQ
    have Q1 := hid (Q0.out.pure hp)
    clear Q0
    generalize y0.heap.size = cb0 at *
    clear hp
    refine wpAnyH_ready (rs := [5, 11]) (by kernel_rfl) (by simp) ?_
    refine AllReadyH.cons rfl (fun K hK => ?_) ?_
    (try simp only [List.getElem_toArray, List.getElem_cons_succ, List.getElem_cons_zero])
    go_simp
    refine hK.out _ _ ?_ (fun hHeld => ?_)
    · exact hS.out _ (RPutW.alloc Q1.out _)
    clear hK K
    try simp only [Act.put, List.setIfInBounds_toArray, List.set_cons_zero, List.set_cons_succ, List.getElem_toArray, List.getElem_cons_succ, List.getElem_cons_zero]
    obtain ⟨y2, hy⟩ : ∃ yy, yy = y1.alloc (.cells #[.int .i64 x, .int .i64 y, .string (bs q), .string (bs b), .int .i64 c] 41) := ⟨_, rfl⟩
    rw [← hy] at hHeld ⊢
    have hp : Pure y1 y2 := by rw [hy]; exact alp _ _
    have M2 := hid (show MBx y1.heap.size ((x, y), q, b, c) y2 from by rw [hy]; exact block_alloc_new _ _)
    have Nm := hid (show (Value.slice a6 L.length c6).ownBlock ≠ some y1.heap.size from fun e => by have := (C1.out.lt _ e).2; omega)
    clear hy
    have Q2 := hid (Q1.out.pure hp)
    have C2 := hid (own_pure C1.out hp)
    have E2 := hid (Nat.le_trans E1.out (Below.size hp))
    clear Q1 C1 E1
    clear hp
    generalize y1.heap.size = um at *
    refine wpAnyH_ready (rs := [6, 11]) (by kernel_rfl) (by simp) ?_
    refine AllReadyH.cons rfl (fun K hK => ?_) ?_
    (try simp only [List.getElem_toArray, List.getElem_cons_succ, List.getElem_cons_zero])
    go_simp
    go_at_call 58; refine (show Calls Tryz.prog 58 #[.slice a6 L.length c6, .int .i64 ix, .slice (some ⟨um, 0, none⟩) 1 1] y2 (InsP cb0 (.slice a6 L.length c6) NL y2) from by have h := ins_any cb0 _ L ix ((x, y), q, b, c) um 1 y2 C2.out Hix.out HlL.out M2.out rfl Nm.out E2.out; rw [HNL.out] at h; exact h).mono ?_; rintro e y3 ⟨v7, rfl, hown, hg⟩; obtain ⟨a7, c7, rfl⟩ := own_shape_d hown; have QQ := hid (RPutW.grown Q2.out hg Cb.out (fun j hj => (C2.out.lt j hj).1) Hs5.out)
    refine hK.out _ _ ?_ (fun hHeld => ?_)
    · exact hS.out _ QQ.out
    clear hK K
    try simp only [Act.put, List.setIfInBounds_toArray, List.set_cons_zero, List.set_cons_succ, List.getElem_toArray, List.getElem_cons_succ, List.getElem_cons_zero]
    have I3 := hid hown
    have Q3 := hid QQ.out
    clear hown hg QQ Q2 C2 E2 M2
    refine wpAnyH_ready (rs := [11]) (by kernel_rfl) (by simp) ?_
    refine AllReadyH.cons rfl (fun K hK => ?_) AllReadyH.nil
    (try simp only [List.getElem_toArray, List.getElem_cons_succ, List.getElem_cons_zero])
    go_simp
    refine hK.out _ _ ?_ (fun hHeld => ?_)
    · exact hS.out _ (RPutW.alloc Q3.out _)
    clear hK K
    try simp only [Act.put, List.setIfInBounds_toArray, List.set_cons_zero, List.set_cons_succ, List.getElem_toArray, List.getElem_cons_succ, List.getElem_cons_zero]
    obtain ⟨y4, hy⟩ : ∃ yy, yy = y3.alloc (.cells #[.int .i64 x, .int .i64 y] 28) := ⟨_, rfl⟩
    rw [← hy] at hHeld ⊢
    have hp : Pure y3 y4 := by rw [hy]; exact alp _ _
    have D4 := hid (show Dots y4 (.slice (some ⟨y3.heap.size, 0, none⟩) 1 1) [(x, y)] from by rw [hy]; exact dots_lit _ _ _)
    clear hy
    have Q4 := hid (Q3.out.pure hp)
    have I4 := hid (own_pure I3.out hp)
    clear Q3 I3
    clear hp
    generalize y3.heap.size = ud at *
    refine wpAnyH_ready (rs := [12]) (by kernel_rfl) (by simp) ?_
    refine AllReadyH.cons rfl (fun K hK => ?_) AllReadyH.nil
    (try simp only [List.getElem_toArray, List.getElem_cons_succ, List.getElem_cons_zero])
    go_simp
    go_at_call 43; refine (hadd.out _ _ Q4.out D4.out).mono ?_; rintro e y5 ⟨v0, v1, rfl, hd0, hd1, hp, hf0, hf1⟩; obtain ⟨p0, k0, rfl⟩ := hd0.shape; obtain ⟨p1, k1, rfl⟩ := hd1.shape; have QQ := hid (Q4.out.pure hp); obtain ⟨t0, t1, t2, r0, r1, r2, u0, u1, u2⟩ := QQ.out.cells
    refine hK.out _ _ ?_ (fun hHeld => ?_)
    · exact hS.out _ QQ.out
    clear hK K
    try simp only [Act.put, List.setIfInBounds_toArray, List.set_cons_zero, List.set_cons_succ, List.getElem_toArray, List.getElem_cons_succ, List.getElem_cons_zero]
    have A0 := hid hd0
    have A1 := hid hd1
    have F0 := hid hf0
    have F1 := hid hf1
    have Ab := hid (show w5.heap.size ≤ y4.heap.size from Q4.out.1.size)
    have Q5 := hid (Q4.out.pure hp)
    have D5 := hid (Row.pure D4.out hp)
    have I5 := hid (own_pure I4.out hp)
    clear Q4 D4 I4
    clear hp hd0 hd1 hf0 hf1 QQ
    refine wpAnyH_take (i := 13) (v := ?_) rfl (by kernel_rfl) (by kernel_rfl) (by kernel_rfl) (fun _ _ _ h => h) (Or.inl ⟨by rfl, ?_⟩) (by assumption) ?_
    rotate_left
    · intro w hSw; (try dsimp only at hSw); (try simp only [List.getElem_toArray, List.getElem_cons_succ, List.getElem_cons_zero]); go_simp; try with_reducible rfl
    try simp only [Act.put, List.setIfInBounds_toArray, List.set_cons_zero, List.set_cons_succ, List.getElem_toArray, List.getElem_cons_succ, List.getElem_cons_zero]
    refine wpAnyH_ready (rs := [14]) (by kernel_rfl) (by simp) ?_
    refine AllReadyH.cons rfl (fun K hK => ?_) AllReadyH.nil
    (try simp only [List.getElem_toArray, List.getElem_cons_succ, List.getElem_cons_zero])
    go_simp
    refine hK.out _ _ ?_ (fun hHeld => ?_)
    · exact hS.out _ (RPutW.set (RPutW.set (RPutW.set Q5.out _ _) _ _) _ _)
    clear hK K
    try simp only [Act.put, List.getElem_toArray, List.getElem_cons_succ, List.getElem_cons_zero]
    refine wpAnyH_take (i := 15) (v := ?_) rfl (by kernel_rfl) (by kernel_rfl) (by kernel_rfl) (fun _ _ _ h => h) (Or.inl ⟨by rfl, ?_⟩) (by assumption) ?_
    rotate_left
    · intro w hSw; (try dsimp only at hSw); (try simp only [List.getElem_toArray, List.getElem_cons_succ, List.getElem_cons_zero]); go_simp; try with_reducible rfl
    try simp only [Act.put, List.setIfInBounds_toArray, List.set_cons_zero, List.set_cons_succ, List.getElem_toArray, List.getElem_cons_succ, List.getElem_cons_zero]
    refine wpAnyH_done (by kernel_rfl) ?_ _
    rotate_left
    refine AllReadyH.cons rfl (fun K hK => ?_) AllReadyH.nil
    (try simp only [List.getElem_toArray, List.getElem_cons_succ, List.getElem_cons_zero])
    go_simp
    refine hK.out _ _ ?_ (fun hHeld => ?_)
    · exact hS.out _ (RPutW.alloc Q2.out _)
    clear hK K
    try simp only [Act.put, List.setIfInBounds_toArray, List.set_cons_zero, List.set_cons_succ, List.getElem_toArray, List.getElem_cons_succ, List.getElem_cons_zero]
    obtain ⟨y3, hy⟩ : ∃ yy, yy = y2.alloc (.cells #[.int .i64 x, .int .i64 y] 28) := ⟨_, rfl⟩
    rw [← hy] at hHeld ⊢
    have hp : Pure y2 y3 := by rw [hy]; exact alp _ _
    have D3 := hid (show Dots y3 (.slice (some ⟨y2.heap.size, 0, none⟩) 1 1) [(x, y)] from by rw [hy]; exact dots_lit _ _ _)
    have Nd := hid (show ∀ j, (Value.slice a6 L.length c6).ownBlock = some j → y2.heap.size ≠ j from fun j e => by have := (C2.out.lt _ e).2; omega)
    clear hy
    have Q3 := hid (Q2.out.pure hp)
    have C3 := hid (own_pure C2.out hp)
    have E3 := hid (Nat.le_trans E2.out (Below.size hp))
    have M3 := hid (MBx.pure M2.out hp)
    clear Q2 C2 E2 M2
    clear hp
    generalize y2.heap.size = ud at *
    refine wpAnyH_ready (rs := [6]) (by kernel_rfl) (by simp) ?_
    refine AllReadyH.cons rfl (fun K hK => ?_) AllReadyH.nil
    (try simp only [List.getElem_toArray, List.getElem_cons_succ, List.getElem_cons_zero])
    go_simp
    go_at_call 58; refine (show Calls Tryz.prog 58 #[.slice a6 L.length c6, .int .i64 ix, .slice (some ⟨um, 0, none⟩) 1 1] y3 (InsP cb0 (.slice a6 L.length c6) NL y3) from by have h := ins_any cb0 _ L ix ((x, y), q, b, c) um 1 y3 C3.out Hix.out HlL.out M3.out rfl Nm.out E3.out; rw [HNL.out] at h; exact h).mono ?_; rintro e y4 ⟨v7, rfl, hown, hg⟩; obtain ⟨a7, c7, rfl⟩ := own_shape_d hown; have QQ := hid (RPutW.grown Q3.out hg Cb.out (fun j hj => (C3.out.lt j hj).1) Hs5.out)
    refine hK.out _ _ ?_ (fun hHeld => ?_)
    · exact hS.out _ QQ.out
    clear hK K
    try simp only [Act.put, List.setIfInBounds_toArray, List.set_cons_zero, List.set_cons_succ, List.getElem_toArray, List.getElem_cons_succ, List.getElem_cons_zero]
    have I4 := hid hown
    have Q4 := hid QQ.out
    have D4 := hid (show Dots y4 (.slice (some ⟨ud, 0, none⟩) 1 1) [(x, y)] from Row.kept D3.out (Kept.grown (S := fun j => (Value.slice a6 L.length c6).ownBlock = some j) (Kept.refl _ _) hg (fun j hj _ => hj)) (fun j hj e => Nd.out j e (by simpa [Value.rb] using hj)))
    clear hown hg QQ Q3 C3 E3 M3 D3
    refine wpAnyH_ready (rs := [12]) (by kernel_rfl) (by simp) ?_
    refine AllReadyH.cons rfl (fun K hK => ?_) AllReadyH.nil
    (try simp only [List.getElem_toArray, List.getElem_cons_succ, List.getElem_cons_zero])
    go_simp
    go_at_call 43; refine (hadd.out _ _ Q4.out D4.out).mono ?_; rintro e y5 ⟨v0, v1, rfl, hd0, hd1, hp, hf0, hf1⟩; obtain ⟨p0, k0, rfl⟩ := hd0.shape; obtain ⟨p1, k1, rfl⟩ := hd1.shape; have QQ := hid (Q4.out.pure hp); obtain ⟨t0, t1, t2, r0, r1, r2, u0, u1, u2⟩ := QQ.out.cells
    refine hK.out _ _ ?_ (fun hHeld => ?_)
    · exact hS.out _ QQ.out
    clear hK K
    try simp only [Act.put, List.setIfInBounds_toArray, List.set_cons_zero, List.set_cons_succ, List.getElem_toArray, List.getElem_cons_succ, List.getElem_cons_zero]
    have A0 := hid hd0
    have A1 := hid hd1
    have F0 := hid hf0
    have F1 := hid hf1
    have Ab := hid (show w5.heap.size ≤ y4.heap.size from Q4.out.1.size)
    have Q5 := hid (Q4.out.pure hp)
    have D5 := hid (Row.pure D4.out hp)
    have I5 := hid (own_pure I4.out hp)
    clear Q4 D4 I4
    clear hp hd0 hd1 hf0 hf1 QQ
    refine wpAnyH_take (i := 13) (v := ?_) rfl (by kernel_rfl) (by kernel_rfl) (by kernel_rfl) (fun _ _ _ h => h) (Or.inl ⟨by rfl, ?_⟩) (by assumption) ?_
    rotate_left
    · intro w hSw; (try dsimp only at hSw); (try simp only [List.getElem_toArray, List.getElem_cons_succ, List.getElem_cons_zero]); go_simp; try with_reducible rfl
    try simp only [Act.put, List.setIfInBounds_toArray, List.set_cons_zero, List.set_cons_succ, List.getElem_toArray, List.getElem_cons_succ, List.getElem_cons_zero]
    refine wpAnyH_ready (rs := [14]) (by kernel_rfl) (by simp) ?_
    refine AllReadyH.cons rfl (fun K hK => ?_) AllReadyH.nil
    (try simp only [List.getElem_toArray, List.getElem_cons_succ, List.getElem_cons_zero])
    go_simp
    refine hK.out _ _ ?_ (fun hHeld => ?_)
    · exact hS.out _ (RPutW.set (RPutW.set (RPutW.set Q5.out _ _) _ _) _ _)
    clear hK K
    try simp only [Act.put, List.getElem_toArray, List.getElem_cons_succ, List.getElem_cons_zero]
    refine wpAnyH_take (i := 15) (v := ?_) rfl (by kernel_rfl) (by kernel_rfl) (by kernel_rfl) (fun _ _ _ h => h) (Or.inl ⟨by rfl, ?_⟩) (by assumption) ?_
    rotate_left
    · intro w hSw; (try dsimp only at hSw); (try simp only [List.getElem_toArray, List.getElem_cons_succ, List.getElem_cons_zero]); go_simp; try with_reducible rfl
    try simp only [Act.put, List.setIfInBounds_toArray, List.set_cons_zero, List.set_cons_succ, List.getElem_toArray, List.getElem_cons_succ, List.getElem_cons_zero]
    refine wpAnyH_done (by kernel_rfl) ?_ _
    rotate_left
    refine AllReadyH.cons rfl (fun K hK => ?_) AllReadyH.nil
    (try simp only [List.getElem_toArray, List.getElem_cons_succ, List.getElem_cons_zero])
    go_simp
    refine hK.out _ _ ?_ (fun hHeld => ?_)
    · exact hS.out _ (RPutW.alloc Q1.out _)
    clear hK K
    try simp only [Act.put, List.setIfInBounds_toArray, List.set_cons_zero, List.set_cons_succ, List.getElem_toArray, List.getElem_cons_succ, List.getElem_cons_zero]
    obtain ⟨y2, hy⟩ : ∃ yy, yy = y1.alloc (.cells #[.int .i64 x, .int .i64 y] 28) := ⟨_, rfl⟩
    rw [← hy] at hHeld ⊢
    have hp : Pure y1 y2 := by rw [hy]; exact alp _ _
    have D2 := hid (show Dots y2 (.slice (some ⟨y1.heap.size, 0, none⟩) 1 1) [(x, y)] from by rw [hy]; exact dots_lit _ _ _)
    have Nd := hid (show ∀ j, (Value.slice a6 L.length c6).ownBlock = some j → y1.heap.size ≠ j from fun j e => by have := (C1.out.lt _ e).2; omega)
    clear hy
    have Q2 := hid (Q1.out.pure hp)
    have C2 := hid (own_pure C1.out hp)
    have E2 := hid (Nat.le_trans E1.out (Below.size hp))
    clear Q1 C1 E1
    clear hp
    generalize y1.heap.size = ud at *
    refine wpAnyH_ready (rs := [5]) (by kernel_rfl) (by simp) ?_
    refine AllReadyH.cons rfl (fun K hK => ?_) AllReadyH.nil
    (try simp only [List.getElem_toArray, List.getElem_cons_succ, List.getElem_cons_zero])
    go_simp
    refine hK.out _ _ ?_ (fun hHeld => ?_)
    · exact hS.out _ (RPutW.alloc Q2.out _)
    clear hK K
    try simp only [Act.put, List.setIfInBounds_toArray, List.set_cons_zero, List.set_cons_succ, List.getElem_toArray, List.getElem_cons_succ, List.getElem_cons_zero]
    obtain ⟨y3, hy⟩ : ∃ yy, yy = y2.alloc (.cells #[.int .i64 x, .int .i64 y, .string (bs q), .string (bs b), .int .i64 c] 41) := ⟨_, rfl⟩
    rw [← hy] at hHeld ⊢
    have hp : Pure y2 y3 := by rw [hy]; exact alp _ _
    have M3 := hid (show MBx y2.heap.size ((x, y), q, b, c) y3 from by rw [hy]; exact block_alloc_new _ _)
    have Nm := hid (show (Value.slice a6 L.length c6).ownBlock ≠ some y2.heap.size from fun e => by have := (C2.out.lt _ e).2; omega)
    clear hy
    have Q3 := hid (Q2.out.pure hp)
    have C3 := hid (own_pure C2.out hp)
    have E3 := hid (Nat.le_trans E2.out (Below.size hp))
    have D3 := hid (Row.pure D2.out hp)
    clear Q2 C2 E2 D2
    clear hp
    generalize y2.heap.size = um at *
    refine wpAnyH_ready (rs := [6]) (by kernel_rfl) (by simp) ?_
    refine AllReadyH.cons rfl (fun K hK => ?_) AllReadyH.nil
    (try simp only [List.getElem_toArray, List.getElem_cons_succ, List.getElem_cons_zero])
    go_simp
    go_at_call 58; refine (show Calls Tryz.prog 58 #[.slice a6 L.length c6, .int .i64 ix, .slice (some ⟨um, 0, none⟩) 1 1] y3 (InsP cb0 (.slice a6 L.length c6) NL y3) from by have h := ins_any cb0 _ L ix ((x, y), q, b, c) um 1 y3 C3.out Hix.out HlL.out M3.out rfl Nm.out E3.out; rw [HNL.out] at h; exact h).mono ?_; rintro e y4 ⟨v7, rfl, hown, hg⟩; obtain ⟨a7, c7, rfl⟩ := own_shape_d hown; have QQ := hid (RPutW.grown Q3.out hg Cb.out (fun j hj => (C3.out.lt j hj).1) Hs5.out)
    refine hK.out _ _ ?_ (fun hHeld => ?_)
    · exact hS.out _ QQ.out
    clear hK K
    try simp only [Act.put, List.setIfInBounds_toArray, List.set_cons_zero, List.set_cons_succ, List.getElem_toArray, List.getElem_cons_succ, List.getElem_cons_zero]
    have I4 := hid hown
    have Q4 := hid QQ.out
    have D4 := hid (show Dots y4 (.slice (some ⟨ud, 0, none⟩) 1 1) [(x, y)] from Row.kept D3.out (Kept.grown (S := fun j => (Value.slice a6 L.length c6).ownBlock = some j) (Kept.refl _ _) hg (fun j hj _ => hj)) (fun j hj e => Nd.out j e (by simpa [Value.rb] using hj)))
    clear hown hg QQ Q3 C3 E3 M3 D3
    refine wpAnyH_ready (rs := [12]) (by kernel_rfl) (by simp) ?_
    refine AllReadyH.cons rfl (fun K hK => ?_) AllReadyH.nil
    (try simp only [List.getElem_toArray, List.getElem_cons_succ, List.getElem_cons_zero])
    go_simp
    go_at_call 43; refine (hadd.out _ _ Q4.out D4.out).mono ?_; rintro e y5 ⟨v0, v1, rfl, hd0, hd1, hp, hf0, hf1⟩; obtain ⟨p0, k0, rfl⟩ := hd0.shape; obtain ⟨p1, k1, rfl⟩ := hd1.shape; have QQ := hid (Q4.out.pure hp); obtain ⟨t0, t1, t2, r0, r1, r2, u0, u1, u2⟩ := QQ.out.cells
    refine hK.out _ _ ?_ (fun hHeld => ?_)
    · exact hS.out _ QQ.out
    clear hK K
    try simp only [Act.put, List.setIfInBounds_toArray, List.set_cons_zero, List.set_cons_succ, List.getElem_toArray, List.getElem_cons_succ, List.getElem_cons_zero]
    have A0 := hid hd0
    have A1 := hid hd1
    have F0 := hid hf0
    have F1 := hid hf1
    have Ab := hid (show w5.heap.size ≤ y4.heap.size from Q4.out.1.size)
    have Q5 := hid (Q4.out.pure hp)
    have D5 := hid (Row.pure D4.out hp)
    have I5 := hid (own_pure I4.out hp)
    clear Q4 D4 I4
    clear hp hd0 hd1 hf0 hf1 QQ
    refine wpAnyH_take (i := 13) (v := ?_) rfl (by kernel_rfl) (by kernel_rfl) (by kernel_rfl) (fun _ _ _ h => h) (Or.inl ⟨by rfl, ?_⟩) (by assumption) ?_
    rotate_left
    · intro w hSw; (try dsimp only at hSw); (try simp only [List.getElem_toArray, List.getElem_cons_succ, List.getElem_cons_zero]); go_simp; try with_reducible rfl
    try simp only [Act.put, List.setIfInBounds_toArray, List.set_cons_zero, List.set_cons_succ, List.getElem_toArray, List.getElem_cons_succ, List.getElem_cons_zero]
    refine wpAnyH_ready (rs := [14]) (by kernel_rfl) (by simp) ?_
    refine AllReadyH.cons rfl (fun K hK => ?_) AllReadyH.nil
    (try simp only [List.getElem_toArray, List.getElem_cons_succ, List.getElem_cons_zero])
    go_simp
    refine hK.out _ _ ?_ (fun hHeld => ?_)
    · exact hS.out _ (RPutW.set (RPutW.set (RPutW.set Q5.out _ _) _ _) _ _)
    clear hK K
    try simp only [Act.put, List.getElem_toArray, List.getElem_cons_succ, List.getElem_cons_zero]
    refine wpAnyH_take (i := 15) (v := ?_) rfl (by kernel_rfl) (by kernel_rfl) (by kernel_rfl) (fun _ _ _ h => h) (Or.inl ⟨by rfl, ?_⟩) (by assumption) ?_
    rotate_left
    · intro w hSw; (try dsimp only at hSw); (try simp only [List.getElem_toArray, List.getElem_cons_succ, List.getElem_cons_zero]); go_simp; try with_reducible rfl
    try simp only [Act.put, List.setIfInBounds_toArray, List.set_cons_zero, List.set_cons_succ, List.getElem_toArray, List.getElem_cons_succ, List.getElem_cons_zero]
    refine wpAnyH_done (by kernel_rfl) ?_ _
    rotate_left
    refine AllReadyH.cons rfl (fun K hK => ?_) ?_
    (try simp only [List.getElem_toArray, List.getElem_cons_succ, List.getElem_cons_zero])
    go_simp
    refine hK.out _ _ ?_ (fun hHeld => ?_)
    · exact hS.out _ (RPutW.alloc Q0.out _)
    clear hK K
    try simp only [Act.put, List.setIfInBounds_toArray, List.set_cons_zero, List.set_cons_succ, List.getElem_toArray, List.getElem_cons_succ, List.getElem_cons_zero]
    obtain ⟨y1, hy⟩ : ∃ yy, yy = y0.alloc (.cells #[.int .i64 x, .int .i64 y, .string (bs q), .string (bs b), .int .i64 c] 41) := ⟨_, rfl⟩
    rw [← hy] at hHeld ⊢
    have hp : Pure y0 y1 := by rw [hy]; exact alp _ _
    have M1 := hid (show MBx y0.heap.size ((x, y), q, b, c) y1 from by rw [hy]; exact block_alloc_new _ _)
    clear hy
    have Q1 := hid (Q0.out.pure hp)
    clear Q0
    clear hp
    generalize y0.heap.size = um at *
    refine wpAnyH_ready (rs := [2, 11]) (by kernel_rfl) (by simp) ?_
    refine AllReadyH.cons rfl (fun K hK => ?_) ?_
    (try simp only [List.getElem_toArray, List.getElem_cons_succ, List.getElem_cons_zero])
    go_simp
    go_at_call 41; refine (hcl.out _ Q1.out).mono ?_; rintro e y2 ⟨v6, rfl, hown, hp⟩; obtain ⟨a6, c6, rfl⟩ := own_shape_d hown; have QQ := hid (Q1.out.pure hp)
    refine hK.out _ _ ?_ (fun hHeld => ?_)
    · exact hS.out _ QQ.out
    clear hK K
    try simp only [Act.put, List.setIfInBounds_toArray, List.set_cons_zero, List.set_cons_succ, List.getElem_toArray, List.getElem_cons_succ, List.getElem_cons_zero]
    have C2 := hid hown
    have Cb := hid (show w5.heap.size ≤ y1.heap.size from Q1.out.1.size)
    have E2 := hid (show y1.heap.size ≤ y2.heap.size from hp.size)
    have Nm := hid (show (Value.slice a6 L.length c6).ownBlock ≠ some um from fun e => by have := (C2.out.lt _ e).1; have := lt_of_block M1.out; omega)
    clear hown QQ
    have Q2 := hid (Q1.out.pure hp)
    have M2 := hid (MBx.pure M1.out hp)
    clear Q1 M1
    generalize y1.heap.size = cb0 at *
    clear hp
    refine wpAnyH_ready (rs := [6, 11]) (by kernel_rfl) (by simp) ?_
    refine AllReadyH.cons rfl (fun K hK => ?_) ?_
    (try simp only [List.getElem_toArray, List.getElem_cons_succ, List.getElem_cons_zero])
    go_simp
    go_at_call 58; refine (show Calls Tryz.prog 58 #[.slice a6 L.length c6, .int .i64 ix, .slice (some ⟨um, 0, none⟩) 1 1] y2 (InsP cb0 (.slice a6 L.length c6) NL y2) from by have h := ins_any cb0 _ L ix ((x, y), q, b, c) um 1 y2 C2.out Hix.out HlL.out M2.out rfl Nm.out E2.out; rw [HNL.out] at h; exact h).mono ?_; rintro e y3 ⟨v7, rfl, hown, hg⟩; obtain ⟨a7, c7, rfl⟩ := own_shape_d hown; have QQ := hid (RPutW.grown Q2.out hg Cb.out (fun j hj => (C2.out.lt j hj).1) Hs5.out)
    refine hK.out _ _ ?_ (fun hHeld => ?_)
    · exact hS.out _ QQ.out
    clear hK K
    try simp only [Act.put, List.setIfInBounds_toArray, List.set_cons_zero, List.set_cons_succ, List.getElem_toArray, List.getElem_cons_succ, List.getElem_cons_zero]
    have I3 := hid hown
    have Q3 := hid QQ.out
    clear hown hg QQ Q2 C2 E2 M2
    refine wpAnyH_ready (rs := [11]) (by kernel_rfl) (by simp) ?_
    refine AllReadyH.cons rfl (fun K hK => ?_) AllReadyH.nil
    (try simp only [List.getElem_toArray, List.getElem_cons_succ, List.getElem_cons_zero])
    go_simp
    refine hK.out _ _ ?_ (fun hHeld => ?_)
    · exact hS.out _ (RPutW.alloc Q3.out _)
    clear hK K
    try simp only [Act.put, List.setIfInBounds_toArray, List.set_cons_zero, List.set_cons_succ, List.getElem_toArray, List.getElem_cons_succ, List.getElem_cons_zero]
    obtain ⟨y4, hy⟩ : ∃ yy, yy = y3.alloc (.cells #[.int .i64 x, .int .i64 y] 28) := ⟨_, rfl⟩
    rw [← hy] at hHeld ⊢
    have hp : Pure y3 y4 := by rw [hy]; exact alp _ _
    have D4 := hid (show Dots y4 (.slice (some ⟨y3.heap.size, 0, none⟩) 1 1) [(x, y)] from by rw [hy]; exact dots_lit _ _ _)
    clear hy
    have Q4 := hid (Q3.out.pure hp)
    have I4 := hid (own_pure I3.out hp)
    clear Q3 I3
    clear hp
    generalize y3.heap.size = ud at *
    refine wpAnyH_ready (rs := [12]) (by kernel_rfl) (by simp) ?_
    refine AllReadyH.cons rfl (fun K hK => ?_) AllReadyH.nil
    (try simp only [List.getElem_toArray, List.getElem_cons_succ, List.getElem_cons_zero])
    go_simp
    go_at_call 43; refine (hadd.out _ _ Q4.out D4.out).mono ?_; rintro e y5 ⟨v0, v1, rfl, hd0, hd1, hp, hf0, hf1⟩; obtain ⟨p0, k0, rfl⟩ := hd0.shape; obtain ⟨p1, k1, rfl⟩ := hd1.shape; have QQ := hid (Q4.out.pure hp); obtain ⟨t0, t1, t2, r0, r1, r2, u0, u1, u2⟩ := QQ.out.cells
    refine hK.out _ _ ?_ (fun hHeld => ?_)
    · exact hS.out _ QQ.out
    clear hK K
    try simp only [Act.put, List.setIfInBounds_toArray, List.set_cons_zero, List.set_cons_succ, List.getElem_toArray, List.getElem_cons_succ, List.getElem_cons_zero]
    have A0 := hid hd0
    have A1 := hid hd1
    have F0 := hid hf0
    have F1 := hid hf1
    have Ab := hid (show w5.heap.size ≤ y4.heap.size from Q4.out.1.size)
    have Q5 := hid (Q4.out.pure hp)
    have D5 := hid (Row.pure D4.out hp)
    have I5 := hid (own_pure I4.out hp)
    clear Q4 D4 I4
    clear hp hd0 hd1 hf0 hf1 QQ
    refine wpAnyH_take (i := 13) (v := ?_) rfl (by kernel_rfl) (by kernel_rfl) (by kernel_rfl) (fun _ _ _ h => h) (Or.inl ⟨by rfl, ?_⟩) (by assumption) ?_
    rotate_left
    · intro w hSw; (try dsimp only at hSw); (try simp only [List.getElem_toArray, List.getElem_cons_succ, List.getElem_cons_zero]); go_simp; try with_reducible rfl
    try simp only [Act.put, List.setIfInBounds_toArray, List.set_cons_zero, List.set_cons_succ, List.getElem_toArray, List.getElem_cons_succ, List.getElem_cons_zero]
    refine wpAnyH_ready (rs := [14]) (by kernel_rfl) (by simp) ?_
    refine AllReadyH.cons rfl (fun K hK => ?_) AllReadyH.nil
    (try simp only [List.getElem_toArray, List.getElem_cons_succ, List.getElem_cons_zero])
    go_simp
    refine hK.out _ _ ?_ (fun hHeld => ?_)
    · exact hS.out _ (RPutW.set (RPutW.set (RPutW.set Q5.out _ _) _ _) _ _)
    clear hK K
    try simp only [Act.put, List.getElem_toArray, List.getElem_cons_succ, List.getElem_cons_zero]
    refine wpAnyH_take (i := 15) (v := ?_) rfl (by kernel_rfl) (by kernel_rfl) (by kernel_rfl) (fun _ _ _ h => h) (Or.inl ⟨by rfl, ?_⟩) (by assumption) ?_
    rotate_left
    · intro w hSw; (try dsimp only at hSw); (try simp only [List.getElem_toArray, List.getElem_cons_succ, List.getElem_cons_zero]); go_simp; try with_reducible rfl
    try simp only [Act.put, List.setIfInBounds_toArray, List.set_cons_zero, List.set_cons_succ, List.getElem_toArray, List.getElem_cons_succ, List.getElem_cons_zero]
    refine wpAnyH_done (by kernel_rfl) ?_ _
    rotate_left
    refine AllReadyH.cons rfl (fun K hK => ?_) AllReadyH.nil
    (try simp only [List.getElem_toArray, List.getElem_cons_succ, List.getElem_cons_zero])
    go_simp
    refine hK.out _ _ ?_ (fun hHeld => ?_)
    · exact hS.out _ (RPutW.alloc Q2.out _)
    clear hK K
    try simp only [Act.put, List.setIfInBounds_toArray, List.set_cons_zero, List.set_cons_succ, List.getElem_toArray, List.getElem_cons_succ, List.getElem_cons_zero]
    obtain ⟨y3, hy⟩ : ∃ yy, yy = y2.alloc (.cells #[.int .i64 x, .int .i64 y] 28) := ⟨_, rfl⟩
    rw [← hy] at hHeld ⊢
    have hp : Pure y2 y3 := by rw [hy]; exact alp _ _
    have D3 := hid (show Dots y3 (.slice (some ⟨y2.heap.size, 0, none⟩) 1 1) [(x, y)] from by rw [hy]; exact dots_lit _ _ _)
    have Nd := hid (show ∀ j, (Value.slice a6 L.length c6).ownBlock = some j → y2.heap.size ≠ j from fun j e => by have := (C2.out.lt _ e).2; omega)
    clear hy
    have Q3 := hid (Q2.out.pure hp)
    have C3 := hid (own_pure C2.out hp)
    have E3 := hid (Nat.le_trans E2.out (Below.size hp))
    have M3 := hid (MBx.pure M2.out hp)
    clear Q2 C2 E2 M2
    clear hp
    generalize y2.heap.size = ud at *
    refine wpAnyH_ready (rs := [6]) (by kernel_rfl) (by simp) ?_
    refine AllReadyH.cons rfl (fun K hK => ?_) AllReadyH.nil
    (try simp only [List.getElem_toArray, List.getElem_cons_succ, List.getElem_cons_zero])
    go_simp
    go_at_call 58; refine (show Calls Tryz.prog 58 #[.slice a6 L.length c6, .int .i64 ix, .slice (some ⟨um, 0, none⟩) 1 1] y3 (InsP cb0 (.slice a6 L.length c6) NL y3) from by have h := ins_any cb0 _ L ix ((x, y), q, b, c) um 1 y3 C3.out Hix.out HlL.out M3.out rfl Nm.out E3.out; rw [HNL.out] at h; exact h).mono ?_; rintro e y4 ⟨v7, rfl, hown, hg⟩; obtain ⟨a7, c7, rfl⟩ := own_shape_d hown; have QQ := hid (RPutW.grown Q3.out hg Cb.out (fun j hj => (C3.out.lt j hj).1) Hs5.out)
    refine hK.out _ _ ?_ (fun hHeld => ?_)
    · exact hS.out _ QQ.out
    clear hK K
    try simp only [Act.put, List.setIfInBounds_toArray, List.set_cons_zero, List.set_cons_succ, List.getElem_toArray, List.getElem_cons_succ, List.getElem_cons_zero]
    have I4 := hid hown
    have Q4 := hid QQ.out
    have D4 := hid (show Dots y4 (.slice (some ⟨ud, 0, none⟩) 1 1) [(x, y)] from Row.kept D3.out (Kept.grown (S := fun j => (Value.slice a6 L.length c6).ownBlock = some j) (Kept.refl _ _) hg (fun j hj _ => hj)) (fun j hj e => Nd.out j e (by simpa [Value.rb] using hj)))
    clear hown hg QQ Q3 C3 E3 M3 D3
    refine wpAnyH_ready (rs := [12]) (by kernel_rfl) (by simp) ?_
    refine AllReadyH.cons rfl (fun K hK => ?_) AllReadyH.nil
    (try simp only [List.getElem_toArray, List.getElem_cons_succ, List.getElem_cons_zero])
    go_simp
    go_at_call 43; refine (hadd.out _ _ Q4.out D4.out).mono ?_; rintro e y5 ⟨v0, v1, rfl, hd0, hd1, hp, hf0, hf1⟩; obtain ⟨p0, k0, rfl⟩ := hd0.shape; obtain ⟨p1, k1, rfl⟩ := hd1.shape; have QQ := hid (Q4.out.pure hp); obtain ⟨t0, t1, t2, r0, r1, r2, u0, u1, u2⟩ := QQ.out.cells
    refine hK.out _ _ ?_ (fun hHeld => ?_)
    · exact hS.out _ QQ.out
    clear hK K
    try simp only [Act.put, List.setIfInBounds_toArray, List.set_cons_zero, List.set_cons_succ, List.getElem_toArray, List.getElem_cons_succ, List.getElem_cons_zero]
    have A0 := hid hd0
    have A1 := hid hd1
    have F0 := hid hf0
    have F1 := hid hf1
    have Ab := hid (show w5.heap.size ≤ y4.heap.size from Q4.out.1.size)
    have Q5 := hid (Q4.out.pure hp)
    have D5 := hid (Row.pure D4.out hp)
    have I5 := hid (own_pure I4.out hp)
    clear Q4 D4 I4
    clear hp hd0 hd1 hf0 hf1 QQ
    refine wpAnyH_take (i := 13) (v := ?_) rfl (by kernel_rfl) (by kernel_rfl) (by kernel_rfl) (fun _ _ _ h => h) (Or.inl ⟨by rfl, ?_⟩) (by assumption) ?_
    rotate_left
    · intro w hSw; (try dsimp only at hSw); (try simp only [List.getElem_toArray, List.getElem_cons_succ, List.getElem_cons_zero]); go_simp; try with_reducible rfl
    try simp only [Act.put, List.setIfInBounds_toArray, List.set_cons_zero, List.set_cons_succ, List.getElem_toArray, List.getElem_cons_succ, List.getElem_cons_zero]
    refine wpAnyH_ready (rs := [14]) (by kernel_rfl) (by simp) ?_
    refine AllReadyH.cons rfl (fun K hK => ?_) AllReadyH.nil
    (try simp only [List.getElem_toArray, List.getElem_cons_succ, List.getElem_cons_zero])
    go_simp
    refine hK.out _ _ ?_ (fun hHeld => ?_)
    · exact hS.out _ (RPutW.set (RPutW.set (RPutW.set Q5.out _ _) _ _) _ _)
    clear hK K
    try simp only [Act.put, List.getElem_toArray, List.getElem_cons_succ, List.getElem_cons_zero]
    refine wpAnyH_take (i := 15) (v := ?_) rfl (by kernel_rfl) (by kernel_rfl) (by kernel_rfl) (fun _ _ _ h => h) (Or.inl ⟨by rfl, ?_⟩) (by assumption) ?_
    rotate_left
    · intro w hSw; (try dsimp only at hSw); (try simp only [List.getElem_toArray, List.getElem_cons_succ, List.getElem_cons_zero]); go_simp; try with_reducible rfl
    try simp only [Act.put, List.setIfInBounds_toArray, List.set_cons_zero, List.set_cons_succ, List.getElem_toArray, List.getElem_cons_succ, List.getElem_cons_zero]
    refine wpAnyH_done (by kernel_rfl) ?_ _
    rotate_left
    refine AllReadyH.cons rfl (fun K hK => ?_) AllReadyH.nil
    (try simp only [List.getElem_toArray, List.getElem_cons_succ, List.getElem_cons_zero])
    go_simp
    refine hK.out _ _ ?_ (fun hHeld => ?_)
    · exact hS.out _ (RPutW.alloc Q1.out _)
    clear hK K
    try simp only [Act.put, List.setIfInBounds_toArray, List.set_cons_zero, List.set_cons_succ, List.getElem_toArray, List.getElem_cons_succ, List.getElem_cons_zero]
    obtain ⟨y2, hy⟩ : ∃ yy, yy = y1.alloc (.cells #[.int .i64 x, .int .i64 y] 28) := ⟨_, rfl⟩
    rw [← hy] at hHeld ⊢
    have hp : Pure y1 y2 := by rw [hy]; exact alp _ _
    have D2 := hid (show Dots y2 (.slice (some ⟨y1.heap.size, 0, none⟩) 1 1) [(x, y)] from by rw [hy]; exact dots_lit _ _ _)
    clear hy
    have Q2 := hid (Q1.out.pure hp)
    have M2 := hid (MBx.pure M1.out hp)
    clear Q1 M1
    clear hp
    generalize y1.heap.size = ud at *
    refine wpAnyH_ready (rs := [2]) (by kernel_rfl) (by simp) ?_
    refine AllReadyH.cons rfl (fun K hK => ?_) AllReadyH.nil
    (try simp only [List.getElem_toArray, List.getElem_cons_succ, List.getElem_cons_zero])
    go_simp
    go_at_call 41; refine (hcl.out _ Q2.out).mono ?_; rintro e y3 ⟨v6, rfl, hown, hp⟩; obtain ⟨a6, c6, rfl⟩ := own_shape_d hown; have QQ := hid (Q2.out.pure hp)
    refine hK.out _ _ ?_ (fun hHeld => ?_)
    · exact hS.out _ QQ.out
    clear hK K
    try simp only [Act.put, List.setIfInBounds_toArray, List.set_cons_zero, List.set_cons_succ, List.getElem_toArray, List.getElem_cons_succ, List.getElem_cons_zero]
    have C3 := hid hown
    have Cb := hid (show w5.heap.size ≤ y2.heap.size from Q2.out.1.size)
    have E3 := hid (show y2.heap.size ≤ y3.heap.size from hp.size)
    have Nm := hid (show (Value.slice a6 L.length c6).ownBlock ≠ some um from fun e => by have := (C3.out.lt _ e).1; have := lt_of_block M2.out; omega)
    have Nd := hid (show ∀ j, (Value.slice a6 L.length c6).ownBlock = some j → ud ≠ j from fun j e => by have := (C3.out.lt _ e).1; have := Row.lt_addr D2.out (by decide); omega)
    clear hown QQ
    have Q3 := hid (Q2.out.pure hp)
    have M3 := hid (MBx.pure M2.out hp)
    have D3 := hid (Row.pure D2.out hp)
    clear Q2 M2 D2
    generalize y2.heap.size = cb0 at *
    clear hp
    refine wpAnyH_ready (rs := [6]) (by kernel_rfl) (by simp) ?_
    refine AllReadyH.cons rfl (fun K hK => ?_) AllReadyH.nil
    (try simp only [List.getElem_toArray, List.getElem_cons_succ, List.getElem_cons_zero])
    go_simp
    go_at_call 58; refine (show Calls Tryz.prog 58 #[.slice a6 L.length c6, .int .i64 ix, .slice (some ⟨um, 0, none⟩) 1 1] y3 (InsP cb0 (.slice a6 L.length c6) NL y3) from by have h := ins_any cb0 _ L ix ((x, y), q, b, c) um 1 y3 C3.out Hix.out HlL.out M3.out rfl Nm.out E3.out; rw [HNL.out] at h; exact h).mono ?_; rintro e y4 ⟨v7, rfl, hown, hg⟩; obtain ⟨a7, c7, rfl⟩ := own_shape_d hown; have QQ := hid (RPutW.grown Q3.out hg Cb.out (fun j hj => (C3.out.lt j hj).1) Hs5.out)
    refine hK.out _ _ ?_ (fun hHeld => ?_)
    · exact hS.out _ QQ.out
    clear hK K
    try simp only [Act.put, List.setIfInBounds_toArray, List.set_cons_zero, List.set_cons_succ, List.getElem_toArray, List.getElem_cons_succ, List.getElem_cons_zero]
    have I4 := hid hown
    have Q4 := hid QQ.out
    have D4 := hid (show Dots y4 (.slice (some ⟨ud, 0, none⟩) 1 1) [(x, y)] from Row.kept D3.out (Kept.grown (S := fun j => (Value.slice a6 L.length c6).ownBlock = some j) (Kept.refl _ _) hg (fun j hj _ => hj)) (fun j hj e => Nd.out j e (by simpa [Value.rb] using hj)))
    clear hown hg QQ Q3 C3 E3 M3 D3
    refine wpAnyH_ready (rs := [12]) (by kernel_rfl) (by simp) ?_
    refine AllReadyH.cons rfl (fun K hK => ?_) AllReadyH.nil
    (try simp only [List.getElem_toArray, List.getElem_cons_succ, List.getElem_cons_zero])
    go_simp
    go_at_call 43; refine (hadd.out _ _ Q4.out D4.out).mono ?_; rintro e y5 ⟨v0, v1, rfl, hd0, hd1, hp, hf0, hf1⟩; obtain ⟨p0, k0, rfl⟩ := hd0.shape; obtain ⟨p1, k1, rfl⟩ := hd1.shape; have QQ := hid (Q4.out.pure hp); obtain ⟨t0, t1, t2, r0, r1, r2, u0, u1, u2⟩ := QQ.out.cells
    refine hK.out _ _ ?_ (fun hHeld => ?_)
    · exact hS.out _ QQ.out
    clear hK K
    try simp only [Act.put, List.setIfInBounds_toArray, List.set_cons_zero, List.set_cons_succ, List.getElem_toArray, List.getElem_cons_succ, List.getElem_cons_zero]
    have A0 := hid hd0
    have A1 := hid hd1
    have F0 := hid hf0
    have F1 := hid hf1
    have Ab := hid (show w5.heap.size ≤ y4.heap.size from Q4.out.1.size)
    have Q5 := hid (Q4.out.pure hp)
    have D5 := hid (Row.pure D4.out hp)
    have I5 := hid (own_pure I4.out hp)
    clear Q4 D4 I4
    clear hp hd0 hd1 hf0 hf1 QQ
    refine wpAnyH_take (i := 13) (v := ?_) rfl (by kernel_rfl) (by kernel_rfl) (by kernel_rfl) (fun _ _ _ h => h) (Or.inl ⟨by rfl, ?_⟩) (by assumption) ?_
    rotate_left
    · intro w hSw; (try dsimp only at hSw); (try simp only [List.getElem_toArray, List.getElem_cons_succ, List.getElem_cons_zero]); go_simp; try with_reducible rfl
    try simp only [Act.put, List.setIfInBounds_toArray, List.set_cons_zero, List.set_cons_succ, List.getElem_toArray, List.getElem_cons_succ, List.getElem_cons_zero]
    refine wpAnyH_ready (rs := [14]) (by kernel_rfl) (by simp) ?_
    refine AllReadyH.cons rfl (fun K hK => ?_) AllReadyH.nil
    (try simp only [List.getElem_toArray, List.getElem_cons_succ, List.getElem_cons_zero])
    go_simp
    refine hK.out _ _ ?_ (fun hHeld => ?_)
    · exact hS.out _ (RPutW.set (RPutW.set (RPutW.set Q5.out _ _) _ _) _ _)
    clear hK K
    try simp only [Act.put, List.getElem_toArray, List.getElem_cons_succ, List.getElem_cons_zero]
    refine wpAnyH_take (i := 15) (v := ?_) rfl (by kernel_rfl) (by kernel_rfl) (by kernel_rfl) (fun _ _ _ h => h) (Or.inl ⟨by rfl, ?_⟩) (by assumption) ?_
    rotate_left
    · intro w hSw; (try dsimp only at hSw); (try simp only [List.getElem_toArray, List.getElem_cons_succ, List.getElem_cons_zero]); go_simp; try with_reducible rfl
    try simp only [Act.put, List.setIfInBounds_toArray, List.set_cons_zero, List.set_cons_succ, List.getElem_toArray, List.getElem_cons_succ, List.getElem_cons_zero]
    refine wpAnyH_done (by kernel_rfl) ?_ _
    rotate_left
    refine AllReadyH.cons rfl (fun K hK => ?_) AllReadyH.nil
    (try simp only [List.getElem_toArray, List.getElem_cons_succ, List.getElem_cons_zero])
    go_simp
    refine hK.out _ _ ?_ (fun hHeld => ?_)
    · exact hS.out _ (RPutW.alloc Q0.out _)
    clear hK K
    try simp only [Act.put, List.setIfInBounds_toArray, List.set_cons_zero, List.set_cons_succ, List.getElem_toArray, List.getElem_cons_succ, List.getElem_cons_zero]
    obtain ⟨y1, hy⟩ : ∃ yy, yy = y0.alloc (.cells #[.int .i64 x, .int .i64 y] 28) := ⟨_, rfl⟩
    rw [← hy] at hHeld ⊢
    have hp : Pure y0 y1 := by rw [hy]; exact alp _ _
    have D1 := hid (show Dots y1 (.slice (some ⟨y0.heap.size, 0, none⟩) 1 1) [(x, y)] from by rw [hy]; exact dots_lit _ _ _)
    clear hy
    have Q1 := hid (Q0.out.pure hp)
    clear Q0
    clear hp
    generalize y0.heap.size = ud at *
    refine wpAnyH_ready (rs := [2, 5]) (by kernel_rfl) (by simp) ?_
    refine AllReadyH.cons rfl (fun K hK => ?_) ?_
    (try simp only [List.getElem_toArray, List.getElem_cons_succ, List.getElem_cons_zero])
    go_simp
    go_at_call 41; refine (hcl.out _ Q1.out).mono ?_; rintro e y2 ⟨v6, rfl, hown, hp⟩; obtain ⟨a6, c6, rfl⟩ := own_shape_d hown; have QQ := hid (Q1.out.pure hp)
    refine hK.out _ _ ?_ (fun hHeld => ?_)
    · exact hS.out _ QQ.out
    clear hK K
    try simp only [Act.put, List.setIfInBounds_toArray, List.set_cons_zero, List.set_cons_succ, List.getElem_toArray, List.getElem_cons_succ, List.getElem_cons_zero]
    have C2 := hid hown
    have Cb := hid (show w5.heap.size ≤ y1.heap.size from Q1.out.1.size)
    have E2 := hid (show y1.heap.size ≤ y2.heap.size from hp.size)
    have Nd := hid (show ∀ j, (Value.slice a6 L.length c6).ownBlock = some j → ud ≠ j from fun j e => by have := (C2.out.lt _ e).1; have := Row.lt_addr D1.out (by decide); omega)
    clear hown QQ
    have Q2 := hid (Q1.out.pure hp)
    have D2 := hid (Row.pure D1.out hp)
    clear Q1 D1
    generalize y1.heap.size = cb0 at *
    clear hp
    refine wpAnyH_ready (rs := [5]) (by kernel_rfl) (by simp) ?_
    refine AllReadyH.cons rfl (fun K hK => ?_) AllReadyH.nil
    (try simp only [List.getElem_toArray, List.getElem_cons_succ, List.getElem_cons_zero])
    go_simp
    refine hK.out _ _ ?_ (fun hHeld => ?_)
    · exact hS.out _ (RPutW.alloc Q2.out _)
    clear hK K
    try simp only [Act.put, List.setIfInBounds_toArray, List.set_cons_zero, List.set_cons_succ, List.getElem_toArray, List.getElem_cons_succ, List.getElem_cons_zero]
    obtain ⟨y3, hy⟩ : ∃ yy, yy = y2.alloc (.cells #[.int .i64 x, .int .i64 y, .string (bs q), .string (bs b), .int .i64 c] 41) := ⟨_, rfl⟩
    rw [← hy] at hHeld ⊢
    have hp : Pure y2 y3 := by rw [hy]; exact alp _ _
    have M3 := hid (show MBx y2.heap.size ((x, y), q, b, c) y3 from by rw [hy]; exact block_alloc_new _ _)
    have Nm := hid (show (Value.slice a6 L.length c6).ownBlock ≠ some y2.heap.size from fun e => by have := (C2.out.lt _ e).2; omega)
    clear hy
    have Q3 := hid (Q2.out.pure hp)
    have C3 := hid (own_pure C2.out hp)
    have E3 := hid (Nat.le_trans E2.out (Below.size hp))
    have D3 := hid (Row.pure D2.out hp)
    clear Q2 C2 E2 D2
    clear hp
    generalize y2.heap.size = um at *
    refine wpAnyH_ready (rs := [6]) (by kernel_rfl) (by simp) ?_
    refine AllReadyH.cons rfl (fun K hK => ?_) AllReadyH.nil
    (try simp only [List.getElem_toArray, List.getElem_cons_succ, List.getElem_cons_zero])
    go_simp
    go_at_call 58; refine (show Calls Tryz.prog 58 #[.slice a6 L.length c6, .int .i64 ix, .slice (some ⟨um, 0, none⟩) 1 1] y3 (InsP cb0 (.slice a6 L.length c6) NL y3) from by have h := ins_any cb0 _ L ix ((x, y), q, b, c) um 1 y3 C3.out Hix.out HlL.out M3.out rfl Nm.out E3.out; rw [HNL.out] at h; exact h).mono ?_; rintro e y4 ⟨v7, rfl, hown, hg⟩; obtain ⟨a7, c7, rfl⟩ := own_shape_d hown; have QQ := hid (RPutW.grown Q3.out hg Cb.out (fun j hj => (C3.out.lt j hj).1) Hs5.out)
    refine hK.out _ _ ?_ (fun hHeld => ?_)
    · exact hS.out _ QQ.out
    clear hK K
    try simp only [Act.put, List.setIfInBounds_toArray, List.set_cons_zero, List.set_cons_succ, List.getElem_toArray, List.getElem_cons_succ, List.getElem_cons_zero]
    have I4 := hid hown
    have Q4 := hid QQ.out
    have D4 := hid (show Dots y4 (.slice (some ⟨ud, 0, none⟩) 1 1) [(x, y)] from Row.kept D3.out (Kept.grown (S := fun j => (Value.slice a6 L.length c6).ownBlock = some j) (Kept.refl _ _) hg (fun j hj _ => hj)) (fun j hj e => Nd.out j e (by simpa [Value.rb] using hj)))
    clear hown hg QQ Q3 C3 E3 M3 D3
    refine wpAnyH_ready (rs := [12]) (by kernel_rfl) (by simp) ?_
    refine AllReadyH.cons rfl (fun K hK => ?_) AllReadyH.nil
    (try simp only [List.getElem_toArray, List.getElem_cons_succ, List.getElem_cons_zero])
    go_simp
    go_at_call 43; refine (hadd.out _ _ Q4.out D4.out).mono ?_; rintro e y5 ⟨v0, v1, rfl, hd0, hd1, hp, hf0, hf1⟩; obtain ⟨p0, k0, rfl⟩ := hd0.shape; obtain ⟨p1, k1, rfl⟩ := hd1.shape; have QQ := hid (Q4.out.pure hp); obtain ⟨t0, t1, t2, r0, r1, r2, u0, u1, u2⟩ := QQ.out.cells
    refine hK.out _ _ ?_ (fun hHeld => ?_)
    · exact hS.out _ QQ.out
    clear hK K
    try simp only [Act.put, List.setIfInBounds_toArray, List.set_cons_zero, List.set_cons_succ, List.getElem_toArray, List.getElem_cons_succ, List.getElem_cons_zero]
    have A0 := hid hd0
    have A1 := hid hd1
    have F0 := hid hf0
    have F1 := hid hf1
    have Ab := hid (show w5.heap.size ≤ y4.heap.size from Q4.out.1.size)
    have Q5 := hid (Q4.out.pure hp)
    have D5 := hid (Row.pure D4.out hp)
    have I5 := hid (own_pure I4.out hp)
    clear Q4 D4 I4
    clear hp hd0 hd1 hf0 hf1 QQ
    refine wpAnyH_take (i := 13) (v := ?_) rfl (by kernel_rfl) (by kernel_rfl) (by kernel_rfl) (fun _ _ _ h => h) (Or.inl ⟨by rfl, ?_⟩) (by assumption) ?_
    rotate_left
    · intro w hSw; (try dsimp only at hSw); (try simp only [List.getElem_toArray, List.getElem_cons_succ, List.getElem_cons_zero]); go_simp; try with_reducible rfl
    try simp only [Act.put, List.setIfInBounds_toArray, List.set_cons_zero, List.set_cons_succ, List.getElem_toArray, List.getElem_cons_succ, List.getElem_cons_zero]
    refine wpAnyH_ready (rs := [14]) (by kernel_rfl) (by simp) ?_
    refine AllReadyH.cons rfl (fun K hK => ?_) AllReadyH.nil
    (try simp only [List.getElem_toArray, List.getElem_cons_succ, List.getElem_cons_zero])
    go_simp
    refine hK.out _ _ ?_ (fun hHeld => ?_)
    · exact hS.out _ (RPutW.set (RPutW.set (RPutW.set Q5.out _ _) _ _) _ _)
    clear hK K
    try simp only [Act.put, List.getElem_toArray, List.getElem_cons_succ, List.getElem_cons_zero]
    refine wpAnyH_take (i := 15) (v := ?_) rfl (by kernel_rfl) (by kernel_rfl) (by kernel_rfl) (fun _ _ _ h => h) (Or.inl ⟨by rfl, ?_⟩) (by assumption) ?_
    rotate_left
    · intro w hSw; (try dsimp only at hSw); (try simp only [List.getElem_toArray, List.getElem_cons_succ, List.getElem_cons_zero]); go_simp; try with_reducible rfl
    try simp only [Act.put, List.setIfInBounds_toArray, List.set_cons_zero, List.set_cons_succ, List.getElem_toArray, List.getElem_cons_succ, List.getElem_cons_zero]
    refine wpAnyH_done (by kernel_rfl) ?_ _
    rotate_left
    refine AllReadyH.cons rfl (fun K hK => ?_) AllReadyH.nil
    (try simp only [List.getElem_toArray, List.getElem_cons_succ, List.getElem_cons_zero])
    go_simp
    refine hK.out _ _ ?_ (fun hHeld => ?_)
    · exact hS.out _ (RPutW.alloc Q1.out _)
    clear hK K
    try simp only [Act.put, List.setIfInBounds_toArray, List.set_cons_zero, List.set_cons_succ, List.getElem_toArray, List.getElem_cons_succ, List.getElem_cons_zero]
    obtain ⟨y2, hy⟩ : ∃ yy, yy = y1.alloc (.cells #[.int .i64 x, .int .i64 y, .string (bs q), .string (bs b), .int .i64 c] 41) := ⟨_, rfl⟩
    rw [← hy] at hHeld ⊢
    have hp : Pure y1 y2 := by rw [hy]; exact alp _ _
    have M2 := hid (show MBx y1.heap.size ((x, y), q, b, c) y2 from by rw [hy]; exact block_alloc_new _ _)
    clear hy
    have Q2 := hid (Q1.out.pure hp)
    have D2 := hid (Row.pure D1.out hp)
    clear Q1 D1
    clear hp
    generalize y1.heap.size = um at *
    refine wpAnyH_ready (rs := [2]) (by kernel_rfl) (by simp) ?_
    refine AllReadyH.cons rfl (fun K hK => ?_) AllReadyH.nil
    (try simp only [List.getElem_toArray, List.getElem_cons_succ, List.getElem_cons_zero])
    go_simp
    go_at_call 41; refine (hcl.out _ Q2.out).mono ?_; rintro e y3 ⟨v6, rfl, hown, hp⟩; obtain ⟨a6, c6, rfl⟩ := own_shape_d hown; have QQ := hid (Q2.out.pure hp)
    refine hK.out _ _ ?_ (fun hHeld => ?_)
    · exact hS.out _ QQ.out
    clear hK K
    try simp only [Act.put, List.setIfInBounds_toArray, List.set_cons_zero, List.set_cons_succ, List.getElem_toArray, List.getElem_cons_succ, List.getElem_cons_zero]
    have C3 := hid hown
    have Cb := hid (show w5.heap.size ≤ y2.heap.size from Q2.out.1.size)
    have E3 := hid (show y2.heap.size ≤ y3.heap.size from hp.size)
    have Nm := hid (show (Value.slice a6 L.length c6).ownBlock ≠ some um from fun e => by have := (C3.out.lt _ e).1; have := lt_of_block M2.out; omega)
    have Nd := hid (show ∀ j, (Value.slice a6 L.length c6).ownBlock = some j → ud ≠ j from fun j e => by have := (C3.out.lt _ e).1; have := Row.lt_addr D2.out (by decide); omega)
    clear hown QQ
    have Q3 := hid (Q2.out.pure hp)
    have M3 := hid (MBx.pure M2.out hp)
    have D3 := hid (Row.pure D2.out hp)
    clear Q2 M2 D2
    generalize y2.heap.size = cb0 at *
    clear hp
    refine wpAnyH_ready (rs := [6]) (by kernel_rfl) (by simp) ?_
    refine AllReadyH.cons rfl (fun K hK => ?_) AllReadyH.nil
    (try simp only [List.getElem_toArray, List.getElem_cons_succ, List.getElem_cons_zero])
    go_simp
    go_at_call 58; refine (show Calls Tryz.prog 58 #[.slice a6 L.length c6, .int .i64 ix, .slice (some ⟨um, 0, none⟩) 1 1] y3 (InsP cb0 (.slice a6 L.length c6) NL y3) from by have h := ins_any cb0 _ L ix ((x, y), q, b, c) um 1 y3 C3.out Hix.out HlL.out M3.out rfl Nm.out E3.out; rw [HNL.out] at h; exact h).mono ?_; rintro e y4 ⟨v7, rfl, hown, hg⟩; obtain ⟨a7, c7, rfl⟩ := own_shape_d hown; have QQ := hid (RPutW.grown Q3.out hg Cb.out (fun j hj => (C3.out.lt j hj).1) Hs5.out)
    refine hK.out _ _ ?_ (fun hHeld => ?_)
    · exact hS.out _ QQ.out
    clear hK K
    try simp only [Act.put, List.setIfInBounds_toArray, List.set_cons_zero, List.set_cons_succ, List.getElem_toArray, List.getElem_cons_succ, List.getElem_cons_zero]
    have I4 := hid hown
    have Q4 := hid QQ.out
    have D4 := hid (show Dots y4 (.slice (some ⟨ud, 0, none⟩) 1 1) [(x, y)] from Row.kept D3.out (Kept.grown (S := fun j => (Value.slice a6 L.length c6).ownBlock = some j) (Kept.refl _ _) hg (fun j hj _ => hj)) (fun j hj e => Nd.out j e (by simpa [Value.rb] using hj)))
    clear hown hg QQ Q3 C3 E3 M3 D3
    refine wpAnyH_ready (rs := [12]) (by kernel_rfl) (by simp) ?_
    refine AllReadyH.cons rfl (fun K hK => ?_) AllReadyH.nil
    (try simp only [List.getElem_toArray, List.getElem_cons_succ, List.getElem_cons_zero])
    go_simp
    go_at_call 43; refine (hadd.out _ _ Q4.out D4.out).mono ?_; rintro e y5 ⟨v0, v1, rfl, hd0, hd1, hp, hf0, hf1⟩; obtain ⟨p0, k0, rfl⟩ := hd0.shape; obtain ⟨p1, k1, rfl⟩ := hd1.shape; have QQ := hid (Q4.out.pure hp); obtain ⟨t0, t1, t2, r0, r1, r2, u0, u1, u2⟩ := QQ.out.cells
    refine hK.out _ _ ?_ (fun hHeld => ?_)
    · exact hS.out _ QQ.out
    clear hK K
    try simp only [Act.put, List.setIfInBounds_toArray, List.set_cons_zero, List.set_cons_succ, List.getElem_toArray, List.getElem_cons_succ, List.getElem_cons_zero]
    have A0 := hid hd0
    have A1 := hid hd1
    have F0 := hid hf0
    have F1 := hid hf1
    have Ab := hid (show w5.heap.size ≤ y4.heap.size from Q4.out.1.size)
    have Q5 := hid (Q4.out.pure hp)
    have D5 := hid (Row.pure D4.out hp)
    have I5 := hid (own_pure I4.out hp)
    clear Q4 D4 I4
    clear hp hd0 hd1 hf0 hf1 QQ
    refine wpAnyH_take (i := 13) (v := ?_) rfl (by kernel_rfl) (by kernel_rfl) (by kernel_rfl) (fun _ _ _ h => h) (Or.inl ⟨by rfl, ?_⟩) (by assumption) ?_
    rotate_left
    · intro w hSw; (try dsimp only at hSw); (try simp only [List.getElem_toArray, List.getElem_cons_succ, List.getElem_cons_zero]); go_simp; try with_reducible rfl
    try simp only [Act.put, List.setIfInBounds_toArray, List.set_cons_zero, List.set_cons_succ, List.getElem_toArray, List.getElem_cons_succ, List.getElem_cons_zero]
    refine wpAnyH_ready (rs := [14]) (by kernel_rfl) (by simp) ?_
    refine AllReadyH.cons rfl (fun K hK => ?_) AllReadyH.nil
    (try simp only [List.getElem_toArray, List.getElem_cons_succ, List.getElem_cons_zero])
    go_simp
    refine hK.out _ _ ?_ (fun hHeld => ?_)
    · exact hS.out _ (RPutW.set (RPutW.set (RPutW.set Q5.out _ _) _ _) _ _)
    clear hK K
    try simp only [Act.put, List.getElem_toArray, List.getElem_cons_succ, List.getElem_cons_zero]
    refine wpAnyH_take (i := 15) (v := ?_) rfl (by kernel_rfl) (by kernel_rfl) (by kernel_rfl) (fun _ _ _ h => h) (Or.inl ⟨by rfl, ?_⟩) (by assumption) ?_
    rotate_left
    · intro w hSw; (try dsimp only at hSw); (try simp only [List.getElem_toArray, List.getElem_cons_succ, List.getElem_cons_zero]); go_simp; try with_reducible rfl
    try simp only [Act.put, List.setIfInBounds_toArray, List.set_cons_zero, List.set_cons_succ, List.getElem_toArray, List.getElem_cons_succ, List.getElem_cons_zero]
    refine wpAnyH_done (by kernel_rfl) ?_ _
    all_goals
      have HF := hid (put_fin (M := NL) (B := K1) (C := K2) hz5.out Hs5.out Q5.out I5.out Cb.out A0.out A1.out Ab.out F0.out F1.out)
      go_wp2
      refine bodyPost_ret (v := .tuple #[.agg #[.slice a7 NL.length c7, .slice p0 K1.length k0, .slice p1 K2.length k1], .int .i64 0]) (by simp [results, Tryz.results19, go_sem, HF.out.1, HF.out.2.1, HF.out.2.2.1]) rfl ?_
      rw [HR.out]
      exact ⟨_, _, _, rfl, BR3.of HF.out.2.2.2.1, HF.out.2.2.2.2.1, HF.out.2.2.2.2.2 _ _ _ rfl⟩
end Go.Proofs.YtbcbmnifbflmaaaGreat

namespace Go.Proofs.YtbcbmnifbflmaaaGreat
open Go.RowKit Go.Maps Go.Shelf Go.Sort

set_option maxRecDepth 8000 in
set_option maxHeartbeats 4000000 in
theorem rput_bad (v0 v1 v2 : Value) (g : Bag) (m : Msg) (w : World) (hr : BR3 v0 v1 v2 g w) (hm : mmay m = false) :
    Calls Tryz.prog 20 #[.agg #[v0, v1, v2], mv m] w (BagT w ([], [], []) 1) := by
  obtain ⟨L, B, C⟩ := g
  obtain ⟨h0, h1, h2⟩ := hr
  dsimp only at h0 h1 h2
  have hmay := hid (fun W => (show Calls _ _ _ _ _ from by have := rmay_any m W; rw [hm] at this; exact this))
  obtain ⟨⟨x, y⟩, q, b, c⟩ := m
  obtain ⟨wz, hwz⟩ : ∃ wz, wz = ((w.alloc (.cells #[v0, v1, v2] 33)).alloc (.cells #[.int .i64 x, .int .i64 y, .string (bs q), .string (bs b), .int .i64 c] 41)).alloc (.cells #[.slice none 0 0, .slice none 0 0, .slice none 0 0] 33) := ⟨_, rfl⟩
  have Hpz := hid (show Pure w wz from by rw [hwz]; exact (((Below.refl _ _).alloc (Nat.le_refl _) _).alloc (by simp) _).alloc (by simp; omega) _)
  have n1 := block_alloc_new (w.alloc (.cells #[v0, v1, v2] 33)) (.cells #[.int .i64 x, .int .i64 y, .string (bs q), .string (bs b), .int .i64 c] 41)
  have n2 := block_alloc_new ((w.alloc (.cells #[v0, v1, v2] 33)).alloc (.cells #[.int .i64 x, .int .i64 y, .string (bs q), .string (bs b), .int .i64 c] 41)) (.cells #[.slice none 0 0, .slice none 0 0, .slice none 0 0] 33)
  simp only [World.size_alloc] at n1 n2
  have hbk : Hid (wz.heap[w.heap.size]? = some (.cells #[v0, v1, v2] 33 (0, 0)) ∧ wz.heap[w.heap.size + 1]? = some (.cells #[.int .i64 x, .int .i64 y, .string (bs q), .string (bs b), .int .i64 c] 41 (0, 0)) ∧ RsB (w.heap.size + 1 + 1) wz) := by
    show _ ∧ _ ∧ wz.heap[w.heap.size + 1 + 1]? = _
    rw [hwz]
    exact ⟨block_alloc_old (block_alloc_old (block_alloc_new _ _) _) _, block_alloc_old n1 _, n2⟩
  clear n1 n2
  have hBox : Hid (∀ W, Pure wz W → (W.cell? ⟨w.heap.size, 1, none⟩ = some v1 ∧ W.cell? ⟨w.heap.size, 2, none⟩ = some v2 ∧ (W.cell? ⟨w.heap.size + 1, 0, none⟩ = some (.int .i64 x) ∧ W.cell? ⟨w.heap.size + 1, 1, none⟩ = some (.int .i64 y) ∧ W.cell? ⟨w.heap.size + 1, 2, none⟩ = some (.string (bs q)) ∧ W.cell? ⟨w.heap.size + 1, 3, none⟩ = some (.string (bs b)) ∧ W.cell? ⟨w.heap.size + 1, 4, none⟩ = some (.int .i64 c)) ∧ RsB (w.heap.size + 1 + 1) W)) := fun W hW => by
    have e0 := (hW.block _ (lt_of_block hbk.out.1)).trans hbk.out.1
    have e1 := (hW.block _ (lt_of_block hbk.out.2.1)).trans hbk.out.2.1
    have e2 := (hW.block _ (lt_of_block hbk.out.2.2)).trans hbk.out.2.2
    exact ⟨cell_of_block e0 1, cell_of_block e0 2, ⟨cell_of_block e1 0, cell_of_block e1 1, cell_of_block e1 2, cell_of_block e1 3, cell_of_block e1 4⟩, e2⟩
  unfold mv at *
  dsimp only at hmay ⊢
  clear h0 h1 h2 hm
  go_enter Tryz.func20, Tryz.ntmps20
  go_wp2_with fail
  rw [← hwz]
  clear hwz
  obtain ⟨f1, f2, ⟨g0, g1, g2, g3, g4⟩, -⟩ := hBox.out wz (Below.refl _ _)
  go_wp2_with fail
  refine (hmay.out wz).mono ?_
  rintro e w1 ⟨rfl, hp1⟩
  clear f1 f2 g0 g1 g2 g3 g4
  have Hp2 := hid hp1
  clear hp1
  obtain ⟨-, -, -, hR⟩ := hBox.out w1 Hp2.out
  obtain ⟨r0, r1, r2, r3, r4, r5⟩ := hR.cells
  obtain ⟨t0, t1, t2, hfin⟩ := bag_ret (w := w) (g := ([], [], [])) hR (by omega) (Hpz.out.then_ Hp2.out) (BR3.nil w1) (BFr.nil _)
  have T0 := hid t0
  have T1 := hid t1
  have T2 := hid t2
  have Hfin := hid (hfin.tup 1)
  clear t0 t1 t2 hfin hR
  go_wp2
  exact bodyPost_ret (v := .tuple #[.agg #[.slice none 0 0, .slice none 0 0, .slice none 0 0], .int .i64 1]) (by simp [results, Tryz.results20, go_sem, T0.out, T1.out, T2.out]) rfl Hfin.out

set_option maxRecDepth 8000 in
set_option maxHeartbeats 4000000 in
theorem sremove_bad (v0 v1 v2 : Value) (d : Dot) (w : World) (hd : dchk d = false) :
    Calls Tryz.prog 12 #[.agg #[v0, v1, v2], dv d] w (BagT w ([], [], []) 1) := by
  have hchk := hid (fun W => (show Calls _ _ _ _ _ from by have := chk_any d W; rw [hd] at this; exact this))
  obtain ⟨x, y⟩ := d
  obtain ⟨wz, hwz⟩ : ∃ wz, wz = ((w.alloc (.cells #[v0, v1, v2] 33)).alloc (.cells #[.int .i64 x, .int .i64 y] 28)).alloc (.cells #[.slice none 0 0, .slice none 0 0, .slice none 0 0] 33) := ⟨_, rfl⟩
  have Hpz := hid (show Pure w wz from by rw [hwz]; exact (((Below.refl _ _).alloc (Nat.le_refl _) _).alloc (by simp) _).alloc (by simp; omega) _)
  have n1 := block_alloc_new (w.alloc (.cells #[v0, v1, v2] 33)) (.cells #[.int .i64 x, .int .i64 y] 28)
  have n2 := block_alloc_new ((w.alloc (.cells #[v0, v1, v2] 33)).alloc (.cells #[.int .i64 x, .int .i64 y] 28)) (.cells #[.slice none 0 0, .slice none 0 0, .slice none 0 0] 33)
  simp only [World.size_alloc] at n1 n2
  have hbk : Hid (wz.heap[w.heap.size + 1]? = some (.cells #[.int .i64 x, .int .i64 y] 28 (0, 0)) ∧ RsB (w.heap.size + 1 + 1) wz) := by
    show _ ∧ wz.heap[w.heap.size + 1 + 1]? = _
    rw [hwz]
    exact ⟨block_alloc_old n1 _, n2⟩
  clear n1 n2
  have hBox : Hid (∀ W, Pure wz W → (W.cell? ⟨w.heap.size + 1, 0, none⟩ = some (.int .i64 x) ∧ W.cell? ⟨w.heap.size + 1, 1, none⟩ = some (.int .i64 y) ∧ RsB (w.heap.size + 1 + 1) W)) := fun W hW => by
    have e1 := (hW.block _ (lt_of_block hbk.out.1)).trans hbk.out.1
    have e2 := (hW.block _ (lt_of_block hbk.out.2)).trans hbk.out.2
    exact ⟨cell_of_block e1 0, cell_of_block e1 1, e2⟩
  unfold dv at *
  dsimp only at hchk ⊢
  obtain ⟨f3, f4, -⟩ := hBox.out wz (Below.refl _ _)
  rw [hwz] at f3 f4
  go_enter Tryz.func12, Tryz.ntmps12
  go_wp2_with fail
  rw [← hwz]
  clear hwz f3 f4
  refine (hchk.out wz).mono ?_
  rintro e w1 ⟨rfl, hp1⟩
  have Hp2 := hid hp1
  clear hp1
  obtain ⟨-, -, hR⟩ := hBox.out w1 Hp2.out
  obtain ⟨r0, r1, r2, r3, r4, r5⟩ := hR.cells
  obtain ⟨t0, t1, t2, hfin⟩ := bag_ret (w := w) (g := ([], [], [])) hR (by omega) (Hpz.out.then_ Hp2.out) (BR3.nil w1) (BFr.nil _)
  have T0 := hid t0
  have T1 := hid t1
  have T2 := hid t2
  have Hfin := hid (hfin.tup 1)
  clear t0 t1 t2 hfin hR
  go_wp2
  exact bodyPost_ret (v := .tuple #[.agg #[.slice none 0 0, .slice none 0 0, .slice none 0 0], .int .i64 1]) (by simp [results, Tryz.results12, go_sem, T0.out, T1.out, T2.out]) rfl Hfin.out

set_option maxRecDepth 8000 in
set_option maxHeartbeats 4000000 in
theorem rremove_bad (v0 v1 v2 : Value) (d : Dot) (w : World) (hd : dchk d = false) :
    Calls Tryz.prog 22 #[.agg #[v0, v1, v2], dv d] w (BagT w ([], [], []) 1) := by
  have hchk := hid (fun W => (show Calls _ _ _ _ _ from by have := rchk_any d W; rw [hd] at this; exact this))
  obtain ⟨x, y⟩ := d
  obtain ⟨wz, hwz⟩ : ∃ wz, wz = ((w.alloc (.cells #[v0, v1, v2] 33)).alloc (.cells #[.int .i64 x, .int .i64 y] 28)).alloc (.cells #[.slice none 0 0, .slice none 0 0, .slice none 0 0] 33) := ⟨_, rfl⟩
  have Hpz := hid (show Pure w wz from by rw [hwz]; exact (((Below.refl _ _).alloc (Nat.le_refl _) _).alloc (by simp) _).alloc (by simp; omega) _)
  have n1 := block_alloc_new (w.alloc (.cells #[v0, v1, v2] 33)) (.cells #[.int .i64 x, .int .i64 y] 28)
  have n2 := block_alloc_new ((w.alloc (.cells #[v0, v1, v2] 33)).alloc (.cells #[.int .i64 x, .int .i64 y] 28)) (.cells #[.slice none 0 0, .slice none 0 0, .slice none 0 0] 33)
  simp only [World.size_alloc] at n1 n2
  have hbk : Hid (wz.heap[w.heap.size + 1]? = some (.cells #[.int .i64 x, .int .i64 y] 28 (0, 0)) ∧ RsB (w.heap.size + 1 + 1) wz) := by
    show _ ∧ wz.heap[w.heap.size + 1 + 1]? = _
    rw [hwz]
    exact ⟨block_alloc_old n1 _, n2⟩
  clear n1 n2
  have hBox : Hid (∀ W, Pure wz W → (W.cell? ⟨w.heap.size + 1, 0, none⟩ = some (.int .i64 x) ∧ W.cell? ⟨w.heap.size + 1, 1, none⟩ = some (.int .i64 y) ∧ RsB (w.heap.size + 1 + 1) W)) := fun W hW => by
    have e1 := (hW.block _ (lt_of_block hbk.out.1)).trans hbk.out.1
    have e2 := (hW.block _ (lt_of_block hbk.out.2)).trans hbk.out.2
    exact ⟨cell_of_block e1 0, cell_of_block e1 1, e2⟩
  unfold dv at *
  dsimp only at hchk ⊢
  obtain ⟨f3, f4, -⟩ := hBox.out wz (Below.refl _ _)
  rw [hwz] at f3 f4
  go_enter Tryz.func22, Tryz.ntmps22
  go_wp2_with fail
  rw [← hwz]
  clear hwz f3 f4
  refine (hchk.out wz).mono ?_
  rintro e w1 ⟨rfl, hp1⟩
  have Hp2 := hid hp1
  clear hp1
  obtain ⟨-, -, hR⟩ := hBox.out w1 Hp2.out
  obtain ⟨r0, r1, r2, r3, r4, r5⟩ := hR.cells
  obtain ⟨t0, t1, t2, hfin⟩ := bag_ret (w := w) (g := ([], [], [])) hR (by omega) (Hpz.out.then_ Hp2.out) (BR3.nil w1) (BFr.nil _)
  have T0 := hid t0
  have T1 := hid t1
  have T2 := hid t2
  have Hfin := hid (hfin.tup 1)
  clear t0 t1 t2 hfin hR
  go_wp2
  exact bodyPost_ret (v := .tuple #[.agg #[.slice none 0 0, .slice none 0 0, .slice none 0 0], .int .i64 1]) (by simp [results, Tryz.results22, go_sem, T0.out, T1.out, T2.out]) rfl Hfin.out

set_option maxHeartbeats 1000000 in
theorem queue1_any (m : Msg) (q : List UInt8) (bn : Nat) (w : World) (h0 : w.cell? ⟨bn, 0, none⟩ = some (.string (bs q))) :
    Calls Tryz.prog 63 #[mv m, .pointer (some ⟨bn, 0, none⟩)] w fun e w' => e = .returned (.bool (!decide (m.2.1 = q))) ∧ Pure w w' := by
  obtain ⟨⟨x, y⟩, mq, mb, mc⟩ := m
  have hne : ((bs mq).toList == (bs q).toList) = decide (mq = q) := bs_beq9 mq q
  have hne2 : ((bs mq).toList != (bs q).toList) = !decide (mq = q) := by rw [bne, hne]
  have f0 := pat (alp w (.cells #[.int .i64 x, .int .i64 y, .string (bs mq), .string (bs mb), .int .i64 mc] 41)) h0
  have Hp := hid (alp w (.cells #[.int .i64 x, .int .i64 y, .string (bs mq), .string (bs mb), .int .i64 mc] 41))
  unfold mv
  dsimp only
  generalize decide (mq = q) = D at *
  clear h0
  go_enter Tryz.func63, Tryz.ntmps63
  go_wp2
  go_ret
  exact ⟨by first | rfl | simp, Hp.out⟩
def bqueue (g : Bag) (q : List UInt8) : List Msg := g.1.filter fun m => decide (m.2.1 = q)

set_option maxRecDepth 8000 in
set_option maxHeartbeats 4000000 in
theorem squeue_any (v0 v1 v2 : Value) (g : Bag) (q : List UInt8) (w : World) (hr : BR3 v0 v1 v2 g w) (hl0 : g.1.length ≤ 100000) :
    Calls Tryz.prog 26 #[.agg #[v0, v1, v2], .string (bs q)] w fun e w' => ∃ v, e = .returned v ∧ Msgs w' v (bqueue g q) ∧ Pure w w' := by
  obtain ⟨L, B, C⟩ := g
  obtain ⟨h0, -, -⟩ := hr
  dsimp only at h0 hl0
  obtain ⟨a0, c0, rfl⟩ := h0.shape
  have hbq : Hid (bqueue (L, B, C) q = L.filter fun m => !(!decide (m.2.1 = q))) := by show _ = _; unfold bqueue; simp
  obtain ⟨wz, hwz⟩ : ∃ wz, wz = (w.alloc (.cells #[.slice a0 L.length c0, v1, v2] 33)).alloc (.cells #[.string (bs q)] 9) := ⟨_, rfl⟩
  have Hpz := hid (show Pure w wz from by rw [hwz]; exact ((Below.refl _ _).alloc (Nat.le_refl _) _).alloc (by simp) _)
  have hbk : Hid (wz.heap[w.heap.size]? = some (.cells #[.slice a0 L.length c0, v1, v2] 33 (0, 0)) ∧ wz.heap[w.heap.size + 1]? = some (.cells #[.string (bs q)] 9 (0, 0))) := by
    have n1 := block_alloc_new (w.alloc (.cells #[.slice a0 L.length c0, v1, v2] 33)) (.cells #[.string (bs q)] 9)
    rw [World.size_alloc] at n1
    show _ ∧ _
    rw [hwz]
    exact ⟨block_alloc_old (block_alloc_new _ _) _, n1⟩
  have hcl := hid (mclone_any _ L wz (show Msgs wz _ L from Row.pure h0 Hpz.out) hl0)
  have hdl := hid (fun W v (hW : Pure wz W) (hv : W.ownsRow wz.heap.size 41 5 v L.length (mvs L)) => deletem_own wz.heap.size v L W hv hl0 63 #[.pointer (some ⟨w.heap.size + 1, 0, none⟩)] (fun m => !decide (m.2.1 = q)) (enters_of Tryz.func63 (by kernel_rfl) rfl)
    (fun W' m hW' => by
      have e1 := (hW.block _ (lt_of_block hbk.out.2)).trans hbk.out.2
      have e2 := (hW'.block (w.heap.size + 1) (lt_of_block e1) (fun e => by have := (hv.lt _ e.symm).1; have := lt_of_block hbk.out.2; omega)).trans e1
      exact queue1_any m q (w.heap.size + 1) W' (cell_of_block e2 0)))
  unfold DmP at hdl
  generalize (L.filter fun m => !(!decide (m.2.1 = q))) = F at *
  have f0 := cell_of_block hbk.out.1 0
  simp at f0
  rw [hwz] at f0
  clear h0
  go_enter Tryz.func26, Tryz.ntmps26
  go_wp2_with fail
  rw [← hwz]
  clear hwz f0
  refine hcl.out.mono ?_
  rintro e w2 ⟨v2', rfl, hown2, hp2⟩
  have hD := hid (hdl.out w2 v2' hp2 hown2)
  have Hown2 := hid hown2
  have Hp2 := hid hp2
  clear hown2 hp2
  go_wp2_with fail
  refine hD.out.mono ?_
  rintro e w3 ⟨v3, rfl, hown3, hg3⟩
  have Hp3 := hid (show Pure wz w3 from Hp2.out.grown hg3 Hp2.out.size (fun k hk => (Hown2.out.lt k hk).1))
  have Hown3 := hid hown3
  clear hown3 hg3
  go_wp2
  go_ret
  exact ⟨_, rfl, by rw [hbq.out]; exact Row.of_own Hown3.out, Hpz.out.then_ Hp3.out⟩

set_option maxRecDepth 8000 in
set_option maxHeartbeats 4000000 in
theorem rqueue_any (v0 v1 v2 : Value) (g : Bag) (q : List UInt8) (w : World) (hr : BR3 v0 v1 v2 g w) (hl0 : g.1.length ≤ 100000) :
    Calls Tryz.prog 27 #[.agg #[v0, v1, v2], .string (bs q)] w fun e w' => ∃ v, e = .returned v ∧ Msgs w' v (bqueue g q) ∧ Pure w w' := by
  obtain ⟨L, B, C⟩ := g
  obtain ⟨h0, -, -⟩ := hr
  dsimp only at h0 hl0
  obtain ⟨a0, c0, rfl⟩ := h0.shape
  have hbq : Hid (bqueue (L, B, C) q = L.filter fun m => decide (m.2.1 = q)) := rfl
  obtain ⟨wz, hwz⟩ : ∃ wz, wz = w.alloc (.cells #[.slice a0 L.length c0, v1, v2] 33) := ⟨_, rfl⟩
  have Hpz := hid (show Pure w wz from by rw [hwz]; exact alp _ _)
  have hbk := hid (show wz.heap[w.heap.size]? = some (.cells #[.slice a0 L.length c0, v1, v2] 33 (0, 0)) from by rw [hwz]; exact block_alloc_new _ _)
  have HL := hid (fun W (hW : Pure wz W) => (show Msgs W (.slice a0 L.length c0) L from Row.pure h0 (Hpz.out.then_ hW)))
  have HC := hid (fun W (hW : Pure wz W) => (show W.cell? ⟨w.heap.size, 0, none⟩ = some (.slice a0 L.length c0) from cell_of_block ((hW.block _ (lt_of_block hbk.out)).trans hbk.out) 0))
  clear h0
  go_enter Tryz.func27, Tryz.ntmps27
  go_wp2_with fail
  rw [← hwz]
  clear hwz
  go_loopw [5, 6] (fun v i wr => ∃ (k : Nat), k ≤ L.length ∧ i = .int .i64 k ∧ Pure wz wr ∧ wr.ownsRow wz.heap.size 41 5 v ((L.take k).filter (fun m => decide (m.2.1 = q))).length (mvs ((L.take k).filter (fun m => decide (m.2.1 = q))))) (fun _ i _ => L.length - (RowKit.intOf i).toNat)
  case atStart => exact ⟨0, Nat.zero_le _, rfl, Below.refl _ _, World.ownsRow_nil _ _ _ _⟩
  case round =>
    obtain ⟨k, hk, rfl, hp, hown⟩ := hrel
    have Hp := hid hp
    have Hown := hid hown
    have g0 := HC.out wr hp
    by_cases hlt : k < L.length
    · have hlt' : (k : Int) < (L.length : Int) := by omega
      obtain ⟨b, off, rfl, hb, z0, z1, z2, z3, z4⟩ := Msgs.get (HL.out wr hp) hlt
      have Hstep := hid (filt_take (fun m => decide (m.2.1 = q)) L k hlt)
      have hYl : ((L.take k).filter (fun m => decide (m.2.1 = q))).length ≤ 100000 := Nat.le_trans (List.length_filter_le _ _) (by rw [List.length_take]; omega)
      generalize (L.take k).filter (fun m => decide (m.2.1 = q)) = Y at *
      generalize L.getD k m0 = z at *
      obtain ⟨a9, c9, rfl⟩ := own_shape_d hown
      obtain ⟨⟨zx, zy⟩, zq, zb, zc⟩ := z
      dsimp only at z0 z1 z2 z3 z4
      have hne : ((bs zq).toList == (bs q).toList) = decide (zq = q) := bs_beq9 zq q
      have hsz := hid (show wz.heap.size ≤ (wr.alloc (.cells #[.int .i64 zx, .int .i64 zy, .string (bs zq), .string (bs zb), .int .i64 zc] 41)).heap.size from by have := hp.size; simp; omega)
      clear hp hown
      by_cases hx : zq = q
      · rw [if_pos (by simp [hx])] at Hstep
        have hne' : ((bs zq).toList == (bs q).toList) = true := by rw [hne]; simp [hx]
        have hs := hsz.out
        clear hne hx
        go_wp2_with (at_builtin; refine wpList_append_msgs rfl _ _ rfl wz.heap.size _ Y Y.length rfl (Hown.out.alloc _) _ [((zx, zy), zq, zb, zc)] 1 rfl (msgs_lit wr ((zx, zy), zq, zb, zc)) (by omega) hs ?_)
        intro v5 w5 hown5 hg5
        have Hown5 := hid (show w5.ownsRow wz.heap.size 41 5 v5 (Y ++ [((zx, zy), zq, zb, zc)]).length (mvs (Y ++ [((zx, zy), zq, zb, zc)])) from by rw [List.length_append]; exact hown5)
        have hpn := hid ((Hp.out.alloc Hp.out.size _).grown hg5 (by have := Hp.out.size; simp; omega) (fun k hk => (Hown.out.lt k hk).1))
        clear hown5 hg5
        go_wp2
        go_roundw
        case rel => exact ⟨k + 1, by omega, by go_num, hpn.out, by rw [Hstep.out]; exact Hown5.out⟩
        case measure => simp [RowKit.intOf]; omega
      · rw [if_neg (by simp [hx]), List.append_nil] at Hstep
        have hne' : ((bs zq).toList == (bs q).toList) = false := by rw [hne]; simp [hx]
        clear hne hx
        go_wp2
        go_roundw
        case rel => exact ⟨k + 1, by omega, by go_num, Hp.out, by rw [Hstep.out]; exact Hown.out⟩
        case measure => simp [RowKit.intOf]; omega
    · obtain rfl : k = L.length := by omega
      have hlt' : ¬ (L.length : Int) < (L.length : Int) := by omega
      rw [List.take_length] at Hown
      clear hp hown
      go_wp2
      go_ret
      exact ⟨_, rfl, by rw [hbq.out]; exact Row.of_own Hown.out, Hpz.out.then_ Hp.out⟩
end Go.Proofs.YtbcbmnifbflmaaaGreat

namespace Go.Proofs.YtbcbmnifbflmaaaGreat
open Go.RowKit Go.Maps Go.Shelf Go.Sort

/-- A bag that is handed back, whose rows may be the caller's. -/
def BagS (w : World) (g : Bag) (e : Ending) (w' : World) : Prop := ∃ v0 v1 v2, e = .returned (.agg #[v0, v1, v2]) ∧ BR3 v0 v1 v2 g w' ∧ Pure w w'
theorem RsB.pureH {n : Nat} {W W' : World} (h : RsB n W) (hp : Pure W W') : RsB n W' := (hp.block _ (lt_of_block h)).trans h
def hand1 (d : Dot) (c : Int) (m : Msg) : Msg := if m.1 = d ∧ m.2.2.2 < c ∧ c ≤ 1048576 then (m.1, m.2.1, m.2.2.1, c) else m
def bhanded (g : Bag) (d : Dot) (c : Int) : Bag := (g.1.map (hand1 d c), g.2)
theorem hand_none {l : List Msg} {d : Dot} {c : Int} (h : ¬ c ≤ 1048576 ∨ ∀ m ∈ l, m.1 ≠ d) : l.map (hand1 d c) = l := by
  conv => rhs; rw [← List.map_id l]
  refine List.map_congr_left (fun m hm => ?_)
  unfold hand1
  rw [if_neg]
  · rfl
  · rintro ⟨h1, _, h3⟩
    rcases h with h | h
    · exact h h3
    · exact h m hm h1
theorem hand1_ne {m : Msg} {d : Dot} (c : Int) (h : m.1 ≠ d) : hand1 d c m = m := by unfold hand1; rw [if_neg (fun e => h e.1)]
theorem hand1_eq {m : Msg} {d : Dot} {c : Int} (h : m.1 = d) (hc : c ≤ 1048576) : hand1 d c m = (m.1, m.2.1, m.2.2.1, max m.2.2.2 c) := by
  unfold hand1
  by_cases hlt : m.2.2.2 < c
  · rw [if_pos ⟨h, hlt, hc⟩, Int.max_eq_right (Int.le_of_lt hlt)]
  · rw [if_neg (fun e => hlt e.2.1), Int.max_eq_left (by omega)]
theorem hand_set {l : List Msg} (hr : MR l) {d : Dot} {c : Int} {k : Nat} (hk : k < l.length) (hd : (l.getD k m0).1 = d) (hc : c ≤ 1048576) :
    l.map (hand1 d c) = l.set k ((l.getD k m0).1, (l.getD k m0).2.1, (l.getD k m0).2.2.1, max (l.getD k m0).2.2.2 c) := by
  have e : l.getD k m0 = l[k]'hk := by simp [List.getD, hk]
  rw [e] at hd ⊢
  apply List.ext_getElem
  · simp
  · intro i h1 h2
    have hi : i < l.length := by simpa using h1
    rw [List.getElem_map, List.getElem_set]
    split
    · rename_i he
      subst he
      exact hand1_eq hd hc
    · rename_i he
      refine hand1_ne c (fun h3 => ?_)
      rcases Nat.lt_or_gt_of_ne he with h4 | h4
      · have := List.pairwise_iff_getElem.1 hr k i hk hi h4
        rw [h3, hd] at this; exact DL.irrefl _ this
      · have := List.pairwise_iff_getElem.1 hr i k hi hk h4
        rw [h3, hd] at this; exact DL.irrefl _ this
theorem set_cells {l : List Msg} {k : Nat} (hk : k < l.length) (c : Int) (j : Nat) (hj : j < l.length * 5) :
    (mvs (l.set k ((l.getD k m0).1, (l.getD k m0).2.1, (l.getD k m0).2.2.1, c)))[j]? = if j = k * 5 + 4 then some (.int .i64 c) else (mvs l)[j]? := by
  have hq : j = j / 5 * 5 + j % 5 := by omega
  have hql : j / 5 < l.length := by omega
  rw [hq, mvs_get _ (j / 5) (by simpa using hql) (j % 5) (by omega), mvs_get _ (j / 5) hql (j % 5) (by omega)]
  by_cases h1 : j / 5 = k
  · have e : (l.set k ((l.getD k m0).1, (l.getD k m0).2.1, (l.getD k m0).2.2.1, c)).getD (j / 5) m0 = ((l.getD k m0).1, (l.getD k m0).2.1, (l.getD k m0).2.2.1, c) := by
      rw [h1]; simp [List.getD, hk]
    rw [e, h1]
    generalize l.getD k m0 = z
    obtain ⟨⟨zx, zy⟩, zq, zb, zc⟩ := z
    have h5 : j % 5 = 0 ∨ j % 5 = 1 ∨ j % 5 = 2 ∨ j % 5 = 3 ∨ j % 5 = 4 := by omega
    rcases h5 with h5 | h5 | h5 | h5 | h5 <;> rw [h5] <;> simp [mcells]
  · have e : (l.set k ((l.getD k m0).1, (l.getD k m0).2.1, (l.getD k m0).2.2.1, c)).getD (j / 5) m0 = l.getD (j / 5) m0 := by
      simp only [List.getD]
      rw [List.getElem?_set_ne (fun h => h1 h.symm)]
    rw [e, if_neg (by omega)]
theorem own_cnt {W : World} {base g n cap : Nat} {l : List Msg} (h : W.ownsRow base 41 5 (.slice (some ⟨g, 0, none⟩) n cap) l.length (mvs l)) {k : Nat} (hk : k < l.length) (c : Int) :
    (W.setCell ⟨g, k * 5 + 4, none⟩ (.int .i64 c)).ownsRow base 41 5 (.slice (some ⟨g, 0, none⟩) n cap) (l.set k ((l.getD k m0).1, (l.getD k m0).2.1, (l.getD k m0).2.2.1, c)).length (mvs (l.set k ((l.getD k m0).1, (l.getD k m0).2.1, (l.getD k m0).2.2.1, c))) := by
  obtain ⟨_, ⟨e, _⟩ | ⟨g', cap', cur, e, hg, hb, h1, h2, h3, h4⟩⟩ := h
  · cases e
  · injection e with e1 e2 e3
    have e4 : g = g' := by injection e1 with e1; exact congrArg Addr.block e1
    subst e4 e2 e3
    rw [List.length_set]
    refine own_of_cells hg (block_setCell hb (k * 5 + 4) (.int .i64 c)) h1 h2 (by simpa using h3) (by rw [mvs_len, List.length_set]) (fun j hj => ?_)
    rw [set_cells hk c j hj, cell_of_block (block_setCell hb (k * 5 + 4) (.int .i64 c))]
    have h5 : j < cur.size := by rw [h3]; omega
    split
    · rename_i he; subst he
      rw [Array.getElem?_setIfInBounds_self_of_lt h5]
    · rename_i he
      rw [Array.getElem?_setIfInBounds_ne (fun h => he h.symm), ← h4, List.getElem?_take, if_pos hj]
      simp

set_option maxRecDepth 8000 in
set_option maxHeartbeats 8000000 in
theorem shanded_any (v0 v1 v2 : Value) (g : Bag) (d : Dot) (c : Int) (w : World) (hr : BR3 v0 v1 v2 g w) (hg : MR g.1) (hl0 : g.1.length ≤ 10000) :
    Calls Tryz.prog 23 #[.agg #[v0, v1, v2], dv d, .int .i64 c] w (BagS w (bhanded g d c)) := by
  have hlt := hr.lt
  obtain ⟨L, B, C⟩ := g
  obtain ⟨hL, hB, hC⟩ := hr
  dsimp only at hL hB hC hlt hl0 hg
  obtain ⟨a0, c0, rfl⟩ := hL.shape
  obtain ⟨a1, c1, rfl⟩ := hB.shape
  obtain ⟨a2, c2, rfl⟩ := hC.shape
  obtain ⟨x, y⟩ := d
  have Hno := hid (fun (h : ¬ (fb L (x, y) = true ∧ c ≤ 1048576)) => show bhanded (L, B, C) (x, y) c = (L, B, C) from by
    unfold bhanded
    dsimp only
    rw [hand_none]
    by_cases hc : c ≤ 1048576
    · right
      have hf : fb L (x, y) = false := by cases e : fb L (x, y) <;> simp [e, hc] at h ⊢
      have := fb_get hg (x, y)
      rw [hf, if_neg (by simp), lget_none] at this
      exact this
    · exact .inl hc)
  have Hyes := hid (fun (h1 : fb L (x, y) = true) (h2 : c ≤ 1048576) => show fk L (x, y) < L.length ∧ bhanded (L, B, C) (x, y) c = (L.set (fk L (x, y)) ((L.getD (fk L (x, y)) m0).1, (L.getD (fk L (x, y)) m0).2.1, (L.getD (fk L (x, y)) m0).2.2.1, max (L.getD (fk L (x, y)) m0).2.2.2 c), B, C) from by
    unfold fb at h1
    rw [Bool.and_eq_true, decide_eq_true_eq, decide_eq_true_eq] at h1
    refine ⟨h1.1, ?_⟩
    unfold bhanded
    dsimp only
    rw [hand_set hg h1.1 h1.2 h2])
  obtain ⟨wz, hwz⟩ : ∃ wz, wz = ((w.alloc (.cells #[.slice a0 L.length c0, .slice a1 B.length c1, .slice a2 C.length c2] 33)).alloc (.cells #[.int .i64 x, .int .i64 y] 28)).alloc (.cells #[.slice none 0 0, .slice none 0 0, .slice none 0 0] 33) := ⟨_, rfl⟩
  have Hpz := hid (show Pure w wz from by rw [hwz]; exact (((Below.refl _ _).alloc (Nat.le_refl _) _).alloc (by simp) _).alloc (by simp; omega) _)
  have Hsz := hid (show wz.heap.size = w.heap.size + 3 from by rw [hwz]; simp)
  have n1 := block_alloc_new (w.alloc (.cells #[.slice a0 L.length c0, .slice a1 B.length c1, .slice a2 C.length c2] 33)) (.cells #[.int .i64 x, .int .i64 y] 28)
  have n2 := block_alloc_new ((w.alloc (.cells #[.slice a0 L.length c0, .slice a1 B.length c1, .slice a2 C.length c2] 33)).alloc (.cells #[.int .i64 x, .int .i64 y] 28)) (.cells #[.slice none 0 0, .slice none 0 0, .slice none 0 0] 33)
  simp only [World.size_alloc] at n1 n2
  have hbk : Hid (wz.heap[w.heap.size]? = some (.cells #[.slice a0 L.length c0, .slice a1 B.length c1, .slice a2 C.length c2] 33 (0, 0)) ∧ wz.heap[w.heap.size + 1]? = some (.cells #[.int .i64 x, .int .i64 y] 28 (0, 0)) ∧ RsB (w.heap.size + 1 + 1) wz) := by
    show _ ∧ _ ∧ wz.heap[w.heap.size + 1 + 1]? = _
    rw [hwz]
    exact ⟨block_alloc_old (block_alloc_old (block_alloc_new _ _) _) _, block_alloc_old n1 _, n2⟩
  clear n1 n2
  have Hrow := hid (fun W (hW : Pure wz W) => (show Msgs W (.slice a0 L.length c0) L ∧ Dots W (.slice a1 B.length c1) B ∧ Dots W (.slice a2 C.length c2) C from ⟨Row.pure hL (Hpz.out.then_ hW), Row.pure hB (Hpz.out.then_ hW), Row.pure hC (Hpz.out.then_ hW)⟩))
  have Hlt := hid hlt
  have hcl := hid (fun W (hW : Pure wz W) => mclone_any (.slice a0 L.length c0) L W (Hrow.out W hW).1 (by omega))
  have hfind := hid (fun v W (hW : Msgs W v L) => sfind_any v L (x, y) W hW)
  have Hl := hid hl0
  unfold dv at hfind ⊢
  dsimp only at hfind ⊢
  generalize hI : fk L (x, y) = I at *
  generalize fb L (x, y) = FB at *
  have hS : Hid (∀ W, Pure wz W → (W.cell? ⟨w.heap.size, 0, none⟩ = some (.slice a0 L.length c0) ∧ W.cell? ⟨w.heap.size, 1, none⟩ = some (.slice a1 B.length c1) ∧ W.cell? ⟨w.heap.size, 2, none⟩ = some (.slice a2 C.length c2) ∧ Pure wz W)) := fun W hW => by
    have e := (hW.block _ (lt_of_block hbk.out.1)).trans hbk.out.1
    exact ⟨cell_of_block e 0, cell_of_block e 1, cell_of_block e 2, hW⟩
  have hst := hid (hS.out wz.drew (Below.refl _ _).drew)
  clear hL hB hC hlt hl0 hg hI
  go_enter Tryz.func23, Tryz.ntmps23
  go_upto_region 1 with fail
  rw [← hwz]
  clear hwz
  refine wp_region_held_drew (S := (fun W => W.cell? ⟨w.heap.size, 0, none⟩ = some (.slice a0 L.length c0) ∧ W.cell? ⟨w.heap.size, 1, none⟩ = some (.slice a1 B.length c1) ∧ W.cell? ⟨w.heap.size, 2, none⟩ = some (.slice a2 C.length c2) ∧ Pure wz W)) (by kernel_rfl) ?_ (fun hHeld => ?_)
  · exact hst.out
  obtain ⟨y0, hy0⟩ : ∃ yy, yy = wz.drew := ⟨_, rfl⟩
  have Q0 := hid (show Pure wz y0 from by rw [hy0]; exact (Below.refl _ _).drew)
  rw [← hy0] at hHeld ⊢
  clear hy0
  refine wpAnyH_take (i := 0) (v := ?_) rfl (by kernel_rfl) (by kernel_rfl) (by kernel_rfl) (fun _ _ _ h => h) (Or.inl ⟨by rfl, ?_⟩) (by assumption) ?_
  rotate_left
  · intro w hSw; (try dsimp only at hSw); (try simp only [List.getElem_toArray, List.getElem_cons_zero]); go_simp; try with_reducible rfl
  try simp only [Act.put, List.setIfInBounds_toArray, List.set_cons_zero, List.set_cons_succ, List.getElem_toArray, List.getElem_cons_zero]
  refine wpAnyH_take (i := 1) (v := ?_) rfl (by kernel_rfl) (by kernel_rfl) (by kernel_rfl) (fun _ _ _ h => h) (Or.inl ⟨by rfl, ?_⟩) (by assumption) ?_
  rotate_left
  · intro w hSw; (try dsimp only at hSw); (try simp only [List.getElem_toArray, List.getElem_cons_succ, List.getElem_cons_zero]); go_simp; try with_reducible rfl
  try simp only [Act.put, List.setIfInBounds_toArray, List.set_cons_zero, List.set_cons_succ, List.getElem_toArray, List.getElem_cons_succ, List.getElem_cons_zero]
  refine wpAnyH_take (i := 3) (v := ?_) rfl (by kernel_rfl) (by kernel_rfl) (by kernel_rfl) (fun _ _ _ h => h) (Or.inl ⟨by rfl, ?_⟩) (by assumption) ?_
  rotate_left
  · intro w hSw; (try dsimp only at hSw); (try simp only [List.getElem_toArray, List.getElem_cons_succ, List.getElem_cons_zero]); go_simp; try with_reducible rfl
  try simp only [Act.put, List.setIfInBounds_toArray, List.set_cons_zero, List.set_cons_succ, List.getElem_toArray, List.getElem_cons_succ, List.getElem_cons_zero]
  refine wpAnyH_take (i := 4) (v := ?_) rfl (by kernel_rfl) (by kernel_rfl) (by kernel_rfl) (fun _ _ _ h => h) (Or.inl ⟨by rfl, ?_⟩) (by assumption) ?_
  rotate_left
  · intro w hSw; (try dsimp only at hSw); (try simp only [List.getElem_toArray, List.getElem_cons_succ, List.getElem_cons_zero]); go_simp; try with_reducible rfl
  try simp only [Act.put, List.setIfInBounds_toArray, List.set_cons_zero, List.set_cons_succ, List.getElem_toArray, List.getElem_cons_succ, List.getElem_cons_zero]
  refine wpAnyH_ready (rs := [2, 6]) (by kernel_rfl) (by simp) ?_
  refine AllReadyH.cons rfl (fun K hK => ?_) ?_
  (try simp only [List.getElem_toArray, List.getElem_cons_succ, List.getElem_cons_zero])
  go_simp
  go_at_call 41; refine (hcl.out _ Q0.out).mono ?_; rintro e y1 ⟨v6, rfl, hown, hp⟩; obtain ⟨a6, c6, rfl⟩ := own_shape_d hown; have QQ := hid (Q0.out.then_ hp)
  refine hK.out _ _ ?_ (fun hHeld => ?_)
  · exact hS.out _ QQ.out
  clear hK K
  try simp only [Act.put, List.setIfInBounds_toArray, List.set_cons_zero, List.set_cons_succ, List.getElem_toArray, List.getElem_cons_succ, List.getElem_cons_zero]
  have Cw := hid (own_mono hown (show wz.heap.size ≤ y0.heap.size from Q0.out.size))
  have Q1 := QQ
  clear QQ hown hp
  refine wpAnyH_take (i := 5) (v := ?_) rfl (by kernel_rfl) (by kernel_rfl) (by kernel_rfl) (fun _ _ _ h => h) (Or.inl ⟨by rfl, ?_⟩) (by assumption) ?_
  rotate_left
  · intro w hSw; (try dsimp only at hSw); (try simp only [List.getElem_toArray, List.getElem_cons_succ, List.getElem_cons_zero]); go_simp; try with_reducible rfl
  try simp only [Act.put, List.setIfInBounds_toArray, List.set_cons_zero, List.set_cons_succ, List.getElem_toArray, List.getElem_cons_succ, List.getElem_cons_zero]
  refine wpAnyH_ready (rs := [6]) (by kernel_rfl) (by simp) ?_
  refine AllReadyH.cons rfl (fun K hK => ?_) AllReadyH.nil
  (try simp only [List.getElem_toArray, List.getElem_cons_succ, List.getElem_cons_zero])
  go_simp
  refine hK.out _ _ ?_ (fun hHeld => ?_)
  · exact hS.out _ (Q1.out.then_ (alp _ _))
  clear hK K
  try simp only [Act.put, List.setIfInBounds_toArray, List.set_cons_zero, List.set_cons_succ, List.getElem_toArray, List.getElem_cons_succ, List.getElem_cons_zero]
  obtain ⟨y2, hy⟩ : ∃ yy, yy = y1.alloc (.cells #[.slice none 0 0, .slice none 0 0, .slice none 0 0] 33) := ⟨_, rfl⟩
  rw [← hy] at hHeld ⊢
  have Q2 := hid (show Pure wz y2 from by rw [hy]; exact Q1.out.then_ (alp _ _))
  have Nx := hid (show ∀ j, (Value.slice a6 L.length c6).ownBlock = some j → j ≠ y1.heap.size from fun j e => by have := (Cw.out.lt _ e).2; omega)
  have Bx0 := hid (show RsB y1.heap.size y2 from by rw [hy]; exact block_alloc_new _ _)
  have No := hid (show wz.heap.size ≤ y1.heap.size from Q1.out.size)
  have Cw := hid (show y2.ownsRow wz.heap.size 41 5 (.slice a6 L.length c6) L.length (mvs L) from by rw [hy]; exact Cw.out.alloc _)
  have Bx := Bx0
  clear Bx0
  clear hy
  generalize y1.heap.size = no at *
  obtain ⟨q0, q1, q2, q3, q4, q5⟩ := Bx.out.cells
  refine wpAnyH_ready (rs := [7]) (by kernel_rfl) (by simp) ?_
  refine AllReadyH.cons rfl (fun K hK => ?_) AllReadyH.nil
  (try simp only [List.getElem_toArray, List.getElem_cons_succ, List.getElem_cons_zero])
  go_simp
  refine hK.out _ _ ?_ (fun hHeld => ?_)
  · exact hS.out _ (((Below.setCell (Below.setCell (Below.setCell Q2.out No.out _) No.out _) No.out _)))
  clear hK K
  try simp only [Act.put, List.getElem_toArray, List.getElem_cons_succ, List.getElem_cons_zero]
  refine wpAnyH_done (by kernel_rfl) ?_ _
  rotate_left
  refine AllReadyH.cons rfl (fun K hK => ?_) AllReadyH.nil
  (try simp only [List.getElem_toArray, List.getElem_cons_succ, List.getElem_cons_zero])
  go_simp
  refine hK.out _ _ ?_ (fun hHeld => ?_)
  · exact hS.out _ (Q0.out.then_ (alp _ _))
  clear hK K
  try simp only [Act.put, List.setIfInBounds_toArray, List.set_cons_zero, List.set_cons_succ, List.getElem_toArray, List.getElem_cons_succ, List.getElem_cons_zero]
  obtain ⟨y1, hy⟩ : ∃ yy, yy = y0.alloc (.cells #[.slice none 0 0, .slice none 0 0, .slice none 0 0] 33) := ⟨_, rfl⟩
  rw [← hy] at hHeld ⊢
  have Q1 := hid (show Pure wz y1 from by rw [hy]; exact Q0.out.then_ (alp _ _))
  have Bx0 := hid (show RsB y0.heap.size y1 from by rw [hy]; exact block_alloc_new _ _)
  have No := hid (show wz.heap.size ≤ y0.heap.size from Q0.out.size)
  clear hy
  generalize y0.heap.size = no at *
  refine wpAnyH_ready (rs := [2]) (by kernel_rfl) (by simp) ?_
  refine AllReadyH.cons rfl (fun K hK => ?_) AllReadyH.nil
  (try simp only [List.getElem_toArray, List.getElem_cons_succ, List.getElem_cons_zero])
  go_simp
  go_at_call 41; refine (hcl.out _ Q1.out).mono ?_; rintro e y2 ⟨v6, rfl, hown, hp⟩; obtain ⟨a6, c6, rfl⟩ := own_shape_d hown; have QQ := hid (Q1.out.then_ hp)
  refine hK.out _ _ ?_ (fun hHeld => ?_)
  · exact hS.out _ QQ.out
  clear hK K
  try simp only [Act.put, List.setIfInBounds_toArray, List.set_cons_zero, List.set_cons_succ, List.getElem_toArray, List.getElem_cons_succ, List.getElem_cons_zero]
  have Cw := hid (own_mono hown (show wz.heap.size ≤ y1.heap.size from Q1.out.size))
  have Q2 := QQ
  have Bx := hid (RsB.pureH Bx0.out hp)
  have Nx := hid (show ∀ j, (Value.slice a6 L.length c6).ownBlock = some j → j ≠ no from fun j e => by have := (hown.lt _ e).1; have := lt_of_block Bx0.out; omega)
  clear Bx0
  obtain ⟨q0, q1, q2, q3, q4, q5⟩ := Bx.out.cells
  clear QQ hown hp
  refine wpAnyH_take (i := 5) (v := ?_) rfl (by kernel_rfl) (by kernel_rfl) (by kernel_rfl) (fun _ _ _ h => h) (Or.inl ⟨by rfl, ?_⟩) (by assumption) ?_
  rotate_left
  · intro w hSw; (try dsimp only at hSw); (try simp only [List.getElem_toArray, List.getElem_cons_succ, List.getElem_cons_zero]); go_simp; try with_reducible rfl
  try simp only [Act.put, List.setIfInBounds_toArray, List.set_cons_zero, List.set_cons_succ, List.getElem_toArray, List.getElem_cons_succ, List.getElem_cons_zero]
  refine wpAnyH_ready (rs := [7]) (by kernel_rfl) (by simp) ?_
  refine AllReadyH.cons rfl (fun K hK => ?_) AllReadyH.nil
  (try simp only [List.getElem_toArray, List.getElem_cons_succ, List.getElem_cons_zero])
  go_simp
  refine hK.out _ _ ?_ (fun hHeld => ?_)
  · exact hS.out _ (((Below.setCell (Below.setCell (Below.setCell Q2.out No.out _) No.out _) No.out _)))
  clear hK K
  try simp only [Act.put, List.getElem_toArray, List.getElem_cons_succ, List.getElem_cons_zero]
  refine wpAnyH_done (by kernel_rfl) ?_ _
  all_goals
    have HY := hid (show RsB no y2 from Bx.out)
    have Bx3 := hid (set3 Bx.out (.slice a6 L.length c6) (.slice a1 B.length c1) (.slice a2 C.length c2))
    have K3 := hid (kept3 y2 no (.slice a6 L.length c6) (.slice a1 B.length c1) (.slice a2 C.length c2))
    have Q3 := hid (show Pure wz (((y2.setCell ⟨no, 0, none⟩ (.slice a6 L.length c6)).setCell ⟨no, 1, none⟩ (.slice a1 B.length c1)).setCell ⟨no, 2, none⟩ (.slice a2 C.length c2)) from ((Below.setCell (Below.setCell (Below.setCell Q2.out No.out _) No.out _) No.out _)))
    have C3 := hid (own_kept Cw.out K3.out Nx.out)
    obtain ⟨y3, hy3⟩ : ∃ yy, yy = ((y2.setCell ⟨no, 0, none⟩ (.slice a6 L.length c6)).setCell ⟨no, 1, none⟩ (.slice a1 B.length c1)).setCell ⟨no, 2, none⟩ (.slice a2 C.length c2) := ⟨_, rfl⟩
    rw [← hy3] at Bx3 Q3 C3
    (try rw [← hy3])
    clear hHeld HY K3 Bx Cw q0 q1 q2 q3 q4 q5 hy3
    have e1 := cell_of_block Bx3.out 0
    have D3 := (Q3.out.block _ (lt_of_block hbk.out.2.1)).trans hbk.out.2.1
    have d0 := cell_of_block D3 0
    have d1 := cell_of_block D3 1
    simp at e1 d0 d1
    clear D3
    go_wp2_with fail
    refine (hfind.out _ y3 (Row.of_own C3.out)).mono ?_
    rintro e y4 ⟨rfl, hp4⟩
    have Q4 := hid (Q3.out.then_ hp4)
    have C4 := hid (own_pure C3.out hp4)
    have Bx4 := hid ((hp4.block _ (lt_of_block Bx3.out)).trans Bx3.out)
    have R4 := hid ((Q4.out.block _ (lt_of_block hbk.out.2.2)).trans hbk.out.2.2)
    have hnn := hid (show no ≠ w.heap.size + 1 + 1 from by have := No.out; have := Hsz.out; omega)
    clear e1 d0 d1 hp4 Bx3 C3 Q3
    by_cases hyes : FB = true ∧ c ≤ 1048576
    · obtain ⟨hfb, hc⟩ := hyes
      obtain ⟨hI, hbh⟩ := Hyes.out hfb hc
      subst hfb
      have Hbh := hid hbh
      obtain ⟨_, ⟨e, h0⟩ | ⟨gg, cap, cur, e, hgg, hbb, h1, h2, h3, h4⟩⟩ := id C4.out
      · omega
      cases e
      obtain ⟨bz, oz, ez, hbz, z0, z1, z2, z3, z4⟩ := Msgs.get (show Msgs y4 (.slice (some ⟨gg, 0, none⟩) L.length c6) L from Row.of_own C4.out) hI
      cases ez
      have Cset := hid (fun u => own_cnt C4.out hI u)
      have hfz : y4.frozen? ⟨gg, I * 5 + 4, none⟩ = false := free_of_block hbb _
      have hgno := hid (Nx.out gg rfl)
      have hggr := hid (show gg ≠ w.heap.size + 1 + 1 from by have := Hsz.out; omega)
      have hgz := hid (show wz.heap.size ≤ gg from hgg)
      generalize L.getD I m0 = z at *
      obtain ⟨⟨zx, zy⟩, zq, zb, zc⟩ := z
      dsimp only at z4 Cset Hbh
      simp only [Nat.zero_add] at z4
      have e1 := cell_of_block Bx4.out 0
      simp at e1
      have hIl : (I : Int) < (L.length : Int) := by omega
      obtain ⟨y5, hy5⟩ : ∃ yy, yy = (y4.setCell ⟨gg, I * 5 + 4, none⟩ (.int .i64 (max zc c))).drew := ⟨_, rfl⟩
      have K5 := hid (show Kept (fun k => k = gg) y4 y5 from by rw [hy5]; exact (Kept.setCell (S := fun k => k = gg) (Kept.refl _ _) (p := ⟨gg, I * 5 + 4, none⟩) (fun _ => rfl) _).drew)
      have C5 := hid (own_pure (Cset.out (max zc c)) (Below.refl _ _).drew)
      have Q5 := hid (show Pure wz y5 from by rw [hy5]; exact (Below.setCell Q4.out hgz.out _).drew)
      have Bx5 := (K5.out.block _ (lt_of_block Bx4.out) (fun e => hgno.out e.symm)).trans Bx4.out
      have R5 := (K5.out.block _ (lt_of_block R4.out) (fun e => hggr.out e.symm)).trans R4.out
      rw [← hy5] at C5
      have Hy5 := hid hy5
      clear hy5
      have b0 := cell_of_block Bx5 0
      have b1 := cell_of_block Bx5 1
      have b2 := cell_of_block Bx5 2
      obtain ⟨r0, r1, r2, r3, r4, r5⟩ := RsB.cells (show RsB (w.heap.size + 1 + 1) y5 from R5)
      simp at b0 b1 b2
      have Bset := hid (set3 R5 (.slice (some ⟨gg, 0, none⟩) L.length c6) (.slice a1 B.length c1) (.slice a2 C.length c2))
      have Kset := hid (kept3 y5 (w.heap.size + 1 + 1) (.slice (some ⟨gg, 0, none⟩) L.length c6) (.slice a1 B.length c1) (.slice a2 C.length c2))
      have hB5 := hid (Hrow.out y5 Q5.out)
      clear hbb h1 h2 h3 h4 hgg hI hbh z0 z1 z2 z3 hbz Bx5 R5
      go_wp2_with fail
      go_region_law (fail)
      all_goals
        rw [← Hy5.out]
        have T0 := hid (cell_of_block Bset.out 0)
        have T1 := hid (cell_of_block Bset.out 1)
        have T2 := hid (cell_of_block Bset.out 2)
        clear z4 e1 hfz
        go_wp2
        exact bodyPost_ret (v := .agg #[.slice (some ⟨gg, 0, none⟩) L.length c6, .slice a1 B.length c1, .slice a2 C.length c2]) (by simp [results, Tryz.results23, go_sem, T0.out, T1.out, T2.out]) rfl
          (by rw [Hbh.out]; exact ⟨_, _, _, rfl, ⟨Row.kept (by have h := Row.of_own C5.out; rw [List.length_set] at h; show Row _ _ _ _ _; rw [List.length_set]; exact h) Kset.out (fun k hk e => by have := (C5.out.lt k (rb_own hk)).1; have := Hsz.out; omega), Row.kept hB5.out.2.1 Kset.out (fun k hk e => by have := Hlt.out.2.1 k hk; omega), Row.kept hB5.out.2.2 Kset.out (fun k hk e => by have := Hlt.out.2.2 k hk; omega)⟩, (((Hpz.out.then_ Q5.out).setCell (p := ⟨w.heap.size + 1 + 1, 0, none⟩) (by show w.heap.size ≤ w.heap.size + 1 + 1; omega) _).setCell (p := ⟨w.heap.size + 1 + 1, 1, none⟩) (by show w.heap.size ≤ w.heap.size + 1 + 1; omega) _).setCell (p := ⟨w.heap.size + 1 + 1, 2, none⟩) (by show w.heap.size ≤ w.heap.size + 1 + 1; omega) _⟩)
    · have Hbh := hid (Hno.out hyes)
      have b0 := cell_of_block Bx4.out 0
      have b1 := cell_of_block Bx4.out 1
      have b2 := cell_of_block Bx4.out 2
      obtain ⟨r0, r1, r2, r3, r4, r5⟩ := RsB.cells (show RsB (w.heap.size + 1 + 1) y4 from R4.out)
      simp at b0 b1 b2
      have Bset := hid (set3 R4.out (.slice a6 L.length c6) (.slice a1 B.length c1) (.slice a2 C.length c2))
      have Kset := hid (kept3 y4 (w.heap.size + 1 + 1) (.slice a6 L.length c6) (.slice a1 B.length c1) (.slice a2 C.length c2))
      have hB5 := hid (Hrow.out y4 Q4.out)
      have Hfin := hid (show BagS w (L, B, C) (.returned (.agg #[.slice a6 L.length c6, .slice a1 B.length c1, .slice a2 C.length c2])) (((y4.setCell ⟨w.heap.size + 1 + 1, 0, none⟩ (.slice a6 L.length c6)).setCell ⟨w.heap.size + 1 + 1, 1, none⟩ (.slice a1 B.length c1)).setCell ⟨w.heap.size + 1 + 1, 2, none⟩ (.slice a2 C.length c2)) from
        ⟨_, _, _, rfl, ⟨Row.kept (Row.of_own C4.out) Kset.out (fun k hk e => by have := (C4.out.lt k (rb_own hk)).1; have := Hsz.out; omega), Row.kept hB5.out.2.1 Kset.out (fun k hk e => by have := Hlt.out.2.1 k hk; omega), Row.kept hB5.out.2.2 Kset.out (fun k hk e => by have := Hlt.out.2.2 k hk; omega)⟩, (((Hpz.out.then_ Q4.out).setCell (p := ⟨w.heap.size + 1 + 1, 0, none⟩) (by show w.heap.size ≤ w.heap.size + 1 + 1; omega) _).setCell (p := ⟨w.heap.size + 1 + 1, 1, none⟩) (by show w.heap.size ≤ w.heap.size + 1 + 1; omega) _).setCell (p := ⟨w.heap.size + 1 + 1, 2, none⟩) (by show w.heap.size ≤ w.heap.size + 1 + 1; omega) _⟩)
      have T0 := hid (cell_of_block Bset.out 0)
      have T1 := hid (cell_of_block Bset.out 1)
      have T2 := hid (cell_of_block Bset.out 2)
      cases FB with
      | false =>
        go_wp2
        exact bodyPost_ret (v := .agg #[.slice a6 L.length c6, .slice a1 B.length c1, .slice a2 C.length c2]) (by simp [results, Tryz.results23, go_sem, T0.out, T1.out, T2.out]) rfl (by rw [Hbh.out]; exact Hfin.out)
      | true =>
        have hc : ¬ c ≤ 1048576 := fun h => hyes ⟨rfl, h⟩
        clear hyes
        go_wp2
        exact bodyPost_ret (v := .agg #[.slice a6 L.length c6, .slice a1 B.length c1, .slice a2 C.length c2]) (by simp [results, Tryz.results23, go_sem, T0.out, T1.out, T2.out]) rfl (by rw [Hbh.out]; exact Hfin.out)
end Go.Proofs.YtbcbmnifbflmaaaGreat

namespace Go.Proofs.YtbcbmnifbflmaaaGreat
open Go.RowKit Go.Maps Go.Shelf Go.Sort

theorem hand_cases (x y c zx zy zc : Int) (zq zb : List UInt8) : (¬ (zx = x ∧ zy = y) ∧ hand1 (x, y) c ((zx, zy), zq, zb, zc) = ((zx, zy), zq, zb, zc)) ∨ ((zx = x ∧ zy = y) ∧ ¬ zc < c ∧ hand1 (x, y) c ((zx, zy), zq, zb, zc) = ((zx, zy), zq, zb, zc)) ∨ ((zx = x ∧ zy = y) ∧ zc < c ∧ ¬ c ≤ 1048576 ∧ hand1 (x, y) c ((zx, zy), zq, zb, zc) = ((zx, zy), zq, zb, zc)) ∨ ((zx = x ∧ zy = y) ∧ zc < c ∧ c ≤ 1048576 ∧ hand1 (x, y) c ((zx, zy), zq, zb, zc) = ((zx, zy), zq, zb, c)) := by
  unfold hand1
  dsimp only
  by_cases h1 : zx = x ∧ zy = y
  · have e : (zx, zy) = (x, y) := by rw [h1.1, h1.2]
    by_cases h2 : zc < c
    · by_cases h3 : c ≤ 1048576
      · exact .inr (.inr (.inr ⟨h1, h2, h3, by rw [if_pos ⟨e, h2, h3⟩]⟩))
      · exact .inr (.inr (.inl ⟨h1, h2, h3, by rw [if_neg (fun h => h3 h.2.2)]⟩))
    · exact .inr (.inl ⟨h1, h2, by rw [if_neg (fun h => h2 h.2.1)]⟩)
  · exact .inl ⟨h1, by rw [if_neg (fun h => h1 (by have := h.1; simpa using this))]⟩
theorem BL.grownCells {o : Nat} {w6 W W' : World} {y0 y1 y2 : Value} {L : List Msg} (h : BL o w6 y0 y1 y2 L W) (hg : W.grownBy W' y0.ownBlock) (ho : o < w6.heap.size) : W'.cell? ⟨o, 0, none⟩ = some y0 ∧ W'.frozen? ⟨o, 0, none⟩ = false := by
  have e := (hg.block o (lt_of_block h.out) (fun e => own_ne h.r0 ho e.symm)).trans h.out
  exact ⟨cell_of_block e 0, free_of_block e 0⟩

set_option maxRecDepth 8000 in
set_option maxHeartbeats 8000000 in
theorem rhanded_any (v0 v1 v2 : Value) (g : Bag) (d : Dot) (c : Int) (w : World) (hr : BR3 v0 v1 v2 g w) (hl0 : g.1.length ≤ 10000) :
    Calls Tryz.prog 24 #[.agg #[v0, v1, v2], dv d, .int .i64 c] w (BagS w (bhanded g d c)) := by
  have hlt := hr.lt
  obtain ⟨L, B, C⟩ := g
  obtain ⟨hL, hB, hC⟩ := hr
  dsimp only at hL hB hC hlt hl0
  obtain ⟨a0, c0, rfl⟩ := hL.shape
  obtain ⟨a1, c1, rfl⟩ := hB.shape
  obtain ⟨a2, c2, rfl⟩ := hC.shape
  obtain ⟨x, y⟩ := d
  have Hbh := hid (show bhanded (L, B, C) (x, y) c = (L.map (hand1 (x, y) c), B, C) from rfl)
  obtain ⟨wz, hwz⟩ : ∃ wz, wz = (((w.alloc (.cells #[.slice a0 L.length c0, .slice a1 B.length c1, .slice a2 C.length c2] 33)).alloc (.cells #[.int .i64 x, .int .i64 y] 28)).alloc (.cells #[.slice none 0 0, .slice none 0 0, .slice none 0 0] 33)).alloc (.cells #[.slice none 0 0, .slice a1 B.length c1, .slice a2 C.length c2] 33) := ⟨_, rfl⟩
  have Hpz := hid (show Pure w wz from by rw [hwz]; exact ((((Below.refl _ _).alloc (Nat.le_refl _) _).alloc (by simp) _).alloc (by simp; omega) _).alloc (by simp; omega) _)
  have Hsz := hid (show wz.heap.size = w.heap.size + 4 from by rw [hwz]; simp)
  have n1 := block_alloc_new (w.alloc (.cells #[.slice a0 L.length c0, .slice a1 B.length c1, .slice a2 C.length c2] 33)) (.cells #[.int .i64 x, .int .i64 y] 28)
  have n2 := block_alloc_new ((w.alloc (.cells #[.slice a0 L.length c0, .slice a1 B.length c1, .slice a2 C.length c2] 33)).alloc (.cells #[.int .i64 x, .int .i64 y] 28)) (.cells #[.slice none 0 0, .slice none 0 0, .slice none 0 0] 33)
  have n3 := block_alloc_new (((w.alloc (.cells #[.slice a0 L.length c0, .slice a1 B.length c1, .slice a2 C.length c2] 33)).alloc (.cells #[.int .i64 x, .int .i64 y] 28)).alloc (.cells #[.slice none 0 0, .slice none 0 0, .slice none 0 0] 33)) (.cells #[.slice none 0 0, .slice a1 B.length c1, .slice a2 C.length c2] 33)
  simp only [World.size_alloc] at n1 n2 n3
  have hbk : Hid (wz.heap[w.heap.size]? = some (.cells #[.slice a0 L.length c0, .slice a1 B.length c1, .slice a2 C.length c2] 33 (0, 0)) ∧ wz.heap[w.heap.size + 1]? = some (.cells #[.int .i64 x, .int .i64 y] 28 (0, 0)) ∧ RsB (w.heap.size + 1 + 1) wz ∧ wz.heap[w.heap.size + 1 + 1 + 1]? = some (.cells #[.slice none 0 0, .slice a1 B.length c1, .slice a2 C.length c2] 33 (0, 0))) := by
    show _ ∧ _ ∧ wz.heap[w.heap.size + 1 + 1]? = _ ∧ _
    rw [hwz]
    exact ⟨block_alloc_old (block_alloc_old (block_alloc_old (block_alloc_new _ _) _) _) _, block_alloc_old (block_alloc_old n1 _) _, block_alloc_old n2 _, n3⟩
  clear n1 n2 n3
  have HF : Hid (∀ W, Kept (fun k => k = w.heap.size + 1 + 1 + 1) wz W → (W.cell? ⟨w.heap.size, 0, none⟩ = some (.slice a0 L.length c0) ∧ W.cell? ⟨w.heap.size + 1, 0, none⟩ = some (.int .i64 x) ∧ W.cell? ⟨w.heap.size + 1, 1, none⟩ = some (.int .i64 y) ∧ Msgs W (.slice a0 L.length c0) L ∧ Dots W (.slice a1 B.length c1) B ∧ Dots W (.slice a2 C.length c2) C ∧ RsB (w.heap.size + 1 + 1) W)) := fun W hW => by
    have e0 := (hW.block _ (lt_of_block hbk.out.1) (by omega)).trans hbk.out.1
    have e1 := (hW.block _ (lt_of_block hbk.out.2.1) (by omega)).trans hbk.out.2.1
    have e2 := (hW.block _ (lt_of_block hbk.out.2.2.1) (by omega)).trans hbk.out.2.2.1
    exact ⟨cell_of_block e0 0, cell_of_block e1 0, cell_of_block e1 1, Row.kept (Row.pure hL Hpz.out) hW (fun k hk e => by have := hlt.1 k hk; omega), Row.kept (Row.pure hB Hpz.out) hW (fun k hk e => by have := hlt.2.1 k hk; omega), Row.kept (Row.pure hC Hpz.out) hW (fun k hk e => by have := hlt.2.2 k hk; omega), e2⟩
  have Hst := hid (show BL (w.heap.size + 1 + 1 + 1) wz (.slice none 0 0) (.slice a1 B.length c1) (.slice a2 C.length c2) [] wz from ⟨hbk.out.2.2.2, World.ownsRow_nil _ _ _ _, Kept.refl _ _⟩)
  have Ho := hid (show w.heap.size + 1 + 1 + 1 < wz.heap.size from by have := Hsz.out; omega)
  have Hlt := hid hlt
  have heq := dot_eqIn
  obtain ⟨f0, -, -, -, -, -, -⟩ := HF.out wz (Kept.refl _ _)
  have f1 := cell_of_block hbk.out.1 1
  have f2 := cell_of_block hbk.out.1 2
  simp at f1 f2
  rw [hwz] at f0 f1 f2
  unfold dv
  dsimp only
  clear hL hB hC hlt
  go_enter Tryz.func24, Tryz.ntmps24
  go_wp2_with fail
  rw [← hwz]
  clear hwz f0 f1 f2
  go_loopw [8] (fun i wr => ∃ (k : Nat) (y0 : Value), k ≤ L.length ∧ i = .int .i64 k ∧ BL (w.heap.size + 1 + 1 + 1) wz y0 (.slice a1 B.length c1) (.slice a2 C.length c2) ((L.take k).map (hand1 (x, y) c)) wr) (fun i _ => L.length - (RowKit.intOf i).toNat)
  case atStart => exact ⟨0, _, Nat.zero_le _, rfl, Hst.out⟩
  case round =>
    obtain ⟨k, y0, hk, rfl, hB⟩ := hrel
    obtain ⟨g0, g1, g2, hL, -, -, -⟩ := HF.out wr hB.k
    have HB := hid hB
    by_cases hlt : k < L.length
    · have hlt' : (k : Int) < (L.length : Int) := by omega
      obtain ⟨b, off, rfl, hb, z0, z1, z2, z3, z4⟩ := Msgs.get hL hlt
      have Hstep := hid (show (L.take (k + 1)).map (hand1 (x, y) c) = (L.take k).map (hand1 (x, y) c) ++ [hand1 (x, y) c (L.getD k m0)] from by rw [take_succ_m L k hlt, List.map_append]; rfl)
      have hYl : ((L.take k).map (hand1 (x, y) c)).length ≤ 100000 := by rw [List.length_map, List.length_take]; omega
      generalize (L.take k).map (hand1 (x, y) c) = Y at *
      generalize L.getD k m0 = z at *
      obtain ⟨a9, c9, rfl⟩ := own_shape_d hB.r0
      obtain ⟨⟨zx, zy⟩, zq, zb, zc⟩ := z
      dsimp only at z0 z1 z2 z3 z4
      have hcases := hand_cases x y c zx zy zc zq zb
      generalize hand1 (x, y) c ((zx, zy), zq, zb, zc) = H at *
      obtain ⟨y1, hy1⟩ : ∃ yy, yy = wr.alloc (.cells #[.int .i64 zx, .int .i64 zy, .string (bs zq), .string (bs zb), .int .i64 zc] 41) := ⟨_, rfl⟩
      have HB1 := hid (show BL (w.heap.size + 1 + 1 + 1) wz (.slice a9 Y.length c9) (.slice a1 B.length c1) (.slice a2 C.length c2) Y y1 from by rw [hy1]; exact HB.out.pure (alp _ _))
      have HM1 := hid (show MX wr.heap.size ((zx, zy), zq, zb, zc) y1 from by rw [hy1]; exact MX.made wr ((zx, zy), zq, zb, zc))
      have Hn := hid (show wz.heap.size ≤ wr.heap.size ∧ (∀ j, (Value.slice a9 Y.length c9).ownBlock = some j → j ≠ wr.heap.size) from ⟨HB.out.k.size, fun j hj => by have := (HB.out.r0.lt j hj).2; omega⟩)
      clear hB hL hb
      go_upto_region 6 with fail
      rw [← hy1]
      clear hy1 g0 g1 g2 z0 z1 z2 z3 z4
      generalize wr.heap.size = n at *
      obtain ⟨-, g1, g2, -, -, -, -⟩ := HF.out y1 HB1.out.k
      obtain ⟨q0, q1, q2, q3, q4⟩ := HM1.out.cells
      rcases hcases with ⟨hx, hH⟩ | ⟨⟨rfl, rfl⟩, hc1, hH⟩ | ⟨⟨rfl, rfl⟩, hc1, hc2, hH⟩ | ⟨⟨rfl, rfl⟩, hc1, hc2, hH⟩
      · have hx' : (decide (zx = x) && decide (zy = y)) = false := by
          rw [Bool.and_eq_false_iff, decide_eq_false_iff_not, decide_eq_false_iff_not]
          by_cases h1 : zx = x
          · right; intro h2; exact hx ⟨h1, h2⟩
          · exact .inl h1
        subst hH
        clear hx
        go_upto_region 8 with fail
        clear g1 g2 q0 q1 q2 q3 q4 hx'
        obtain ⟨o0, o1, o2, o3⟩ := HB1.out.cells
        obtain ⟨q0, q1, q2, q3, q4⟩ := HM1.out.cells
        have hs1 : wz.heap.size ≤ (y1.alloc (.cells #[.int .i64 zx, .int .i64 zy, .string (bs zq), .string (bs zb), .int .i64 zc] 41)).heap.size := by have := HB1.out.k.size; simp; omega
        go_wp2_with (at_builtin; refine wpList_append_msgs rfl _ _ rfl wz.heap.size _ Y Y.length rfl (HB1.out.r0.alloc _) _ [((zx, zy), zq, zb, zc)] 1 rfl (msgs_lit y1 ((zx, zy), zq, zb, zc)) (by omega) hs1 ?_)
        intro v5 w5 hown5 hg5
        have Hown5 := hid (show w5.ownsRow wz.heap.size 41 5 v5 (Y ++ [((zx, zy), zq, zb, zc)]).length (mvs (Y ++ [((zx, zy), zq, zb, zc)])) from by rw [List.length_append]; exact hown5)
        have HB5 := hid (BL.grow (HB1.out.pure (alp _ _)) hg5 Hown5.out Ho.out)
        obtain ⟨s0, s3⟩ := BL.grownCells (HB1.out.pure (alp _ _)) hg5 Ho.out
        obtain ⟨a5, c5, rfl⟩ := own_shape_d hown5
        clear hown5 hg5 o0 o1 o2 o3 q0 q1 q2 q3 q4 hs1
        go_wp2
        go_roundw
        case rel => exact ⟨k + 1, _, by omega, by go_num, by rw [Hstep.out]; exact HB5.out.2⟩
        case measure => simp [RowKit.intOf]; omega
      · subst hH
        go_upto_region 8 with fail
        clear g1 g2 q0 q1 q2 q3 q4
        obtain ⟨o0, o1, o2, o3⟩ := HB1.out.cells
        obtain ⟨q0, q1, q2, q3, q4⟩ := HM1.out.cells
        have hs1 : wz.heap.size ≤ (y1.alloc (.cells #[.int .i64 zx, .int .i64 zy, .string (bs zq), .string (bs zb), .int .i64 zc] 41)).heap.size := by have := HB1.out.k.size; simp; omega
        go_wp2_with (at_builtin; refine wpList_append_msgs rfl _ _ rfl wz.heap.size _ Y Y.length rfl (HB1.out.r0.alloc _) _ [((zx, zy), zq, zb, zc)] 1 rfl (msgs_lit y1 ((zx, zy), zq, zb, zc)) (by omega) hs1 ?_)
        intro v5 w5 hown5 hg5
        have Hown5 := hid (show w5.ownsRow wz.heap.size 41 5 v5 (Y ++ [((zx, zy), zq, zb, zc)]).length (mvs (Y ++ [((zx, zy), zq, zb, zc)])) from by rw [List.length_append]; exact hown5)
        have HB5 := hid (BL.grow (HB1.out.pure (alp _ _)) hg5 Hown5.out Ho.out)
        obtain ⟨s0, s3⟩ := BL.grownCells (HB1.out.pure (alp _ _)) hg5 Ho.out
        obtain ⟨a5, c5, rfl⟩ := own_shape_d hown5
        clear hown5 hg5 o0 o1 o2 o3 q0 q1 q2 q3 q4 hs1
        go_wp2
        go_roundw
        case rel => exact ⟨k + 1, _, by omega, by go_num, by rw [Hstep.out]; exact HB5.out.2⟩
        case measure => simp [RowKit.intOf]; omega
      · subst hH
        go_upto_region 8 with fail
        clear g1 g2 q0 q1 q2 q3 q4
        obtain ⟨o0, o1, o2, o3⟩ := HB1.out.cells
        obtain ⟨q0, q1, q2, q3, q4⟩ := HM1.out.cells
        have hs1 : wz.heap.size ≤ (y1.alloc (.cells #[.int .i64 zx, .int .i64 zy, .string (bs zq), .string (bs zb), .int .i64 zc] 41)).heap.size := by have := HB1.out.k.size; simp; omega
        go_wp2_with (at_builtin; refine wpList_append_msgs rfl _ _ rfl wz.heap.size _ Y Y.length rfl (HB1.out.r0.alloc _) _ [((zx, zy), zq, zb, zc)] 1 rfl (msgs_lit y1 ((zx, zy), zq, zb, zc)) (by omega) hs1 ?_)
        intro v5 w5 hown5 hg5
        have Hown5 := hid (show w5.ownsRow wz.heap.size 41 5 v5 (Y ++ [((zx, zy), zq, zb, zc)]).length (mvs (Y ++ [((zx, zy), zq, zb, zc)])) from by rw [List.length_append]; exact hown5)
        have HB5 := hid (BL.grow (HB1.out.pure (alp _ _)) hg5 Hown5.out Ho.out)
        obtain ⟨s0, s3⟩ := BL.grownCells (HB1.out.pure (alp _ _)) hg5 Ho.out
        obtain ⟨a5, c5, rfl⟩ := own_shape_d hown5
        clear hown5 hg5 o0 o1 o2 o3 q0 q1 q2 q3 q4 hs1
        go_wp2
        go_roundw
        case rel => exact ⟨k + 1, _, by omega, by go_num, by rw [Hstep.out]; exact HB5.out.2⟩
        case measure => simp [RowKit.intOf]; omega
      · subst hH
        have f4 := free_of_block HM1.out.b 4
        obtain ⟨y2, hy2⟩ : ∃ yy, yy = y1.setCell ⟨n, 4, none⟩ (.int .i64 c) := ⟨_, rfl⟩
        have HB2 := hid (show BL (w.heap.size + 1 + 1 + 1) wz (.slice a9 Y.length c9) (.slice a1 B.length c1) (.slice a2 C.length c2) Y y2 from by
          rw [hy2]
          have hk := kset y1 n 4 (.int .i64 c)
          have hn := Hn.out
          have ho := Ho.out
          exact ⟨(hk.block _ (lt_of_block HB1.out.out) (fun e => by omega)).trans HB1.out.out, own_kept HB1.out.r0 hk hn.2, HB1.out.k.setCell (p := ⟨n, 4, none⟩) (fun hl => absurd hl (by show ¬ n < _; omega)) _⟩)
        have HM2 := hid (show MX n ((zx, zy), zq, zb, c) y2 from by
          rw [hy2]
          have := block_setCell HM1.out.b 4 (.int .i64 c)
          exact ⟨by simpa using this⟩)
        go_upto_region 8 with fail
        rw [← hy2]
        clear hy2 g1 g2 q0 q1 q2 q3 q4 f4
        obtain ⟨o0, o1, o2, o3⟩ := HB2.out.cells
        obtain ⟨q0, q1, q2, q3, q4⟩ := HM2.out.cells
        have hs1 : wz.heap.size ≤ (y2.alloc (.cells #[.int .i64 zx, .int .i64 zy, .string (bs zq), .string (bs zb), .int .i64 c] 41)).heap.size := by have := HB2.out.k.size; simp; omega
        go_wp2_with (at_builtin; refine wpList_append_msgs rfl _ _ rfl wz.heap.size _ Y Y.length rfl (HB2.out.r0.alloc _) _ [((zx, zy), zq, zb, c)] 1 rfl (msgs_lit y2 ((zx, zy), zq, zb, c)) (by omega) hs1 ?_)
        intro v5 w5 hown5 hg5
        have Hown5 := hid (show w5.ownsRow wz.heap.size 41 5 v5 (Y ++ [((zx, zy), zq, zb, c)]).length (mvs (Y ++ [((zx, zy), zq, zb, c)])) from by rw [List.length_append]; exact hown5)
        have HB5 := hid (BL.grow (HB2.out.pure (alp _ _)) hg5 Hown5.out Ho.out)
        obtain ⟨s0, s3⟩ := BL.grownCells (HB2.out.pure (alp _ _)) hg5 Ho.out
        obtain ⟨a5, c5, rfl⟩ := own_shape_d hown5
        clear hown5 hg5 o0 o1 o2 o3 q0 q1 q2 q3 q4 hs1
        go_wp2
        go_roundw
        case rel => exact ⟨k + 1, _, by omega, by go_num, by rw [Hstep.out]; exact HB5.out.2⟩
        case measure => simp [RowKit.intOf]; omega
    · obtain rfl : k = L.length := by omega
      have hlt' : ¬ (L.length : Int) < (L.length : Int) := by omega
      rw [List.take_length] at HB
      obtain ⟨-, -, -, -, hd1, hd2, hR⟩ := HF.out wr hB.k
      obtain ⟨o0, o1, o2, o3⟩ := hB.cells
      obtain ⟨r0, r1, r2, r3, r4, r5⟩ := hR.cells
      rw [List.take_length] at hB
      generalize hY : L.map (hand1 (x, y) c) = Y at *
      have HY := hid hY
      clear hY
      obtain ⟨a9, c9, rfl⟩ := own_shape_d hB.r0
      have hpw : Pure w wr := by
        have h2 : Kept (fun j => w.heap.size ≤ j) w wr := (Pure.kept Hpz.out).trans (hB.k.mono (fun j _ e => by omega))
        exact h2.below (Nat.le_refl _) (fun j hj e => by omega)
      have Bset := hid (set3 hR (.slice a9 Y.length c9) (.slice a1 B.length c1) (.slice a2 C.length c2))
      have Kset := hid (kept3 wr (w.heap.size + 1 + 1) (.slice a9 Y.length c9) (.slice a1 B.length c1) (.slice a2 C.length c2))
      have Hfin := hid (show BagS w (Y, B, C) (.returned (.agg #[.slice a9 Y.length c9, .slice a1 B.length c1, .slice a2 C.length c2])) (((wr.setCell ⟨w.heap.size + 1 + 1, 0, none⟩ (.slice a9 Y.length c9)).setCell ⟨w.heap.size + 1 + 1, 1, none⟩ (.slice a1 B.length c1)).setCell ⟨w.heap.size + 1 + 1, 2, none⟩ (.slice a2 C.length c2)) from
        ⟨_, _, _, rfl, ⟨Row.kept (Row.of_own hB.r0) Kset.out (fun k hk e => by have := (hB.r0.lt k (rb_own hk)).1; have := Hsz.out; omega), Row.kept hd1 Kset.out (fun k hk e => by have := Hlt.out.2.1 k hk; omega), Row.kept hd2 Kset.out (fun k hk e => by have := Hlt.out.2.2 k hk; omega)⟩, ((hpw.setCell (p := ⟨w.heap.size + 1 + 1, 0, none⟩) (by show w.heap.size ≤ w.heap.size + 1 + 1; omega) _).setCell (p := ⟨w.heap.size + 1 + 1, 1, none⟩) (by show w.heap.size ≤ w.heap.size + 1 + 1; omega) _).setCell (p := ⟨w.heap.size + 1 + 1, 2, none⟩) (by show w.heap.size ≤ w.heap.size + 1 + 1; omega) _⟩)
      have T0 := hid (cell_of_block Bset.out 0)
      have T1 := hid (cell_of_block Bset.out 1)
      have T2 := hid (cell_of_block Bset.out 2)
      clear hB hL hd1 hd2 hR hpw
      go_wp2
      exact bodyPost_ret (v := .agg #[.slice a9 Y.length c9, .slice a1 B.length c1, .slice a2 C.length c2]) (by simp [results, Tryz.results24, go_sem, T0.out, T1.out, T2.out]) rfl (by rw [Hbh.out]; exact Hfin.out)
end Go.Proofs.YtbcbmnifbflmaaaGreat

