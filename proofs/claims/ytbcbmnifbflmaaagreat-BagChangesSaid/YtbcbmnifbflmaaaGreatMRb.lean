/- dot.Read, dot.ReadRow, ctx.Read. ctx.Read. bag.may, bag.Check of any bag. -/
import Derived.Test.YtbcbmnifbflmaaaGreatMRa
import Derived.Test.YtbcbmnifbflmaaaGreatRW
import Derived.Test.YtbcbmnifbflmaaaGreatMBg
namespace Go.Proofs.YtbcbmnifbflmaaaGreat
open Go.RowKit Go.Maps Go.Shelf Go.Sort

/-- A reader, and what has been kept since w. -/
structure RdK (T : TypeId) (b : Nat) (s : RS) (w W : World) : Prop where
  r : RdAt T b s W
  k : Kept (fun k => k = b) w W
theorem RdK.start {T : TypeId} {b : Nat} {s : RS} {w : World} (h : RdAt T b s w) : RdK T b s w w := ⟨h, Kept.refl _ _⟩
theorem RdK.pure {T : TypeId} {b : Nat} {s : RS} {w W W' : World} (h : RdK T b s w W) (hp : Pure W W') : RdK T b s w W' := ⟨h.r.pure hp, h.k.trans hp.kept⟩
theorem RdK.alloc {T : TypeId} {b : Nat} {s : RS} {w W : World} (h : RdK T b s w W) (o : Obj) : RdK T b s w (W.alloc o) := h.pure ((Below.refl _ _).alloc (Nat.le_refl _) o)
theorem RdK.next {T : TypeId} {b : Nat} {s s' : RS} {w W W' : World} (h : RdK T b s w W) (hr : RdAt T b s' W') (hk : Kept (fun k => k = b) W W') : RdK T b s' w W' := ⟨hr, h.k.trans hk⟩
theorem RdK.set {T : TypeId} {b : Nat} {s : RS} {w W : World} (h : RdK T b s w W) {n i : Nat} (hn : w.heap.size ≤ n) (hb : n ≠ b) (v : Value) : RdK T b s w (W.setCell ⟨n, i, none⟩ v) :=
  ⟨h.r.kept (S := fun k => k = n) (Kept.setCell (S := fun k => k = n) (Kept.refl _ _) (p := ⟨n, i, none⟩) (fun _ => rfl) v) (fun e => hb e.symm), h.k.setCell (p := ⟨n, i, none⟩) (fun h => absurd h (by show ¬ n < _; omega)) v⟩
theorem block_kept {b n : Nat} {o : Obj} {W W' : World} (e : W.heap[n]? = some o) (hk : Kept (fun k => k = b) W W') (hn : n ≠ b) : W'.heap[n]? = some o := (hk.block n (lt_of_block e) hn).trans e

set_option maxHeartbeats 1000000 in
theorem dtorn_any (b : Nat) (s : RS) (w : World) (h : RdAt 87 b s w) :
    Calls Tryz.prog 110 #[.pointer (some ⟨b, 0, none⟩)] w (RdP 87 b (.tuple #[]) none w) := by
  have hi := hid (mintr_any b s (-1) w h (by decide) (by decide))
  rw [rdInt_neg (-1) (by decide)] at hi
  unfold RdP at hi
  clear h
  go_enter Tryz.func110, Tryz.ntmps110
  go_wp2_with fail
  refine hi.out.mono ?_
  rintro e w1 ⟨rfl, hr1, hk1⟩
  have H1 := hid hr1
  have K1 := hid hk1
  clear hr1 hk1
  go_wp2
  go_end0
  exact ⟨rfl, H1.out, K1.out⟩

set_option maxRecDepth 8000 in
set_option maxHeartbeats 2000000 in
theorem dread_any (b : Nat) (s : RS) (w : World) (h : RdAt 87 b s w) :
    Calls Tryz.prog 77 #[.pointer (some ⟨b, 0, none⟩)] w (RdP 87 b (dv (rdDot s).1) (rdDot s).2 w) := by
  have hb := h.lt
  have Hb := hid hb
  have hint := hid (fun s W (hW : RdAt 87 b s W) => mintr_any b s 1099511627776 W hW (by decide) (by decide))
  have hfine := hid (fun s W (hW : RdAt 87 b s W) => fine_any b s W hW)
  have htorn := hid (fun s W (hW : RdAt 87 b s W) => dtorn_any b s W hW)
  unfold RdP at hint htorn ⊢
  have hd : rdDot s = match rdInt 1099511627776 (rdInt 1099511627776 s).2 with
    | (_, none) => ((0, 0), none)
    | (y, some r) => if dchk ((rdInt 1099511627776 s).1, y) then (((rdInt 1099511627776 s).1, y), some r) else ((0, 0), none) := rfl
  have hi1 := hid (hint.out s)
  have hi2 := hid (hint.out (rdInt 1099511627776 s).2)
  generalize rdDot s = R at *
  generalize rdInt 1099511627776 (rdInt 1099511627776 s).2 = N2 at *
  generalize rdInt 1099511627776 s = N1 at *
  obtain ⟨x, s1⟩ := N1
  obtain ⟨y, s2⟩ := N2
  dsimp only at hi1 hi2 hd
  have hchk := hid (chk_any (x, y))
  unfold dv at hchk ⊢
  dsimp only at hchk ⊢
  have Hd := hid hd
  clear hd hint
  obtain ⟨wz, hwz⟩ : ∃ wz, wz = w.alloc (.cells #[.int .i64 0, .int .i64 0] 28) := ⟨_, rfl⟩
  have Hz := hid (show RdK 87 b s w wz from by rw [hwz]; exact (RdK.start h).alloc _)
  have Bz := hid (show wz.heap[w.heap.size]? = some (.cells #[.int .i64 0, .int .i64 0] 28 (0, 0)) from by rw [hwz]; exact block_alloc_new _ _)
  clear h
  go_enter Tryz.func77, Tryz.ntmps77
  go_wp2_with fail
  rw [← hwz]
  clear hwz
  refine (hi1.out wz Hz.out.r).mono ?_
  rintro e w1 ⟨rfl, hr1, hk1⟩
  have Z1 := hid (block_kept Bz.out hk1 (by omega))
  have hlt1 := hid (show w.heap.size < w1.heap.size from lt_of_block Z1.out)
  obtain ⟨v1, hv1⟩ : ∃ v1, v1 = w1.alloc (.cells #[.int .i64 x, .int .i64 0] 28) := ⟨_, rfl⟩
  have H1 := hid (show RdK 87 b s1 w v1 from by rw [hv1]; exact (Hz.out.next hr1 hk1).alloc _)
  have Y1 := hid (show v1.heap[w1.heap.size]? = some (.cells #[.int .i64 x, .int .i64 0] 28 (0, 0)) from by rw [hv1]; exact block_alloc_new _ _)
  have Q1 := hid (show v1.heap[w.heap.size]? = some (.cells #[.int .i64 0, .int .i64 0] 28 (0, 0)) from by rw [hv1]; exact block_alloc_old Z1.out _)
  clear hr1 hk1 Z1 Bz Hz hi1
  go_wp2_with fail
  rw [← hv1]
  clear hv1
  generalize w1.heap.size = n at *
  refine (hi2.out v1 H1.out.r).mono ?_
  rintro e w2 ⟨rfl, hr2, hk2⟩
  have Y2 := block_kept Y1.out hk2 (by have := hlt1.out; omega)
  have Q2 := block_kept Q1.out hk2 (by omega)
  have H2 := hid (H1.out.next hr2 hk2)
  have c1 := cell_of_block Y2 1
  have f1 := free_of_block Y2 1
  simp at c1
  obtain ⟨v2, hv2⟩ : ∃ v2, v2 = w2.setCell ⟨n, 1, none⟩ (.int .i64 y) := ⟨_, rfl⟩
  have Y3 := hid (show v2.heap[n]? = some (.cells #[.int .i64 x, .int .i64 y] 28 (0, 0)) from by rw [hv2]; have := block_setCell Y2 1 (.int .i64 y); simpa using this)
  have Q3 := hid (show v2.heap[w.heap.size]? = some (.cells #[.int .i64 0, .int .i64 0] 28 (0, 0)) from by rw [hv2]; exact block_setCell_other Q2 _ (by show ¬ n = _; have := hlt1.out; omega) _)
  have H3 := hid (show RdK 87 b s2 w v2 from by rw [hv2]; exact H2.out.set (by have := hlt1.out; omega) (by have := hlt1.out; omega) _)
  clear hr2 hk2 Y1 Q1 H1 H2 hi2 Y2 Q2
  go_wp2_with fail
  rw [← hv2]
  clear hv2 c1 f1
  refine (hfine.out s2 v2 H3.out.r).mono ?_
  rintro e w3 ⟨rfl, hp3⟩
  have H4 := hid (H3.out.pure hp3)
  have Y4 := (hp3.block _ (lt_of_block Y3.out)).trans Y3.out
  have Q4 := (hp3.block _ (lt_of_block Q3.out)).trans Q3.out
  have HY4 := hid Y4
  have HQ4 := hid Q4
  have y0 := cell_of_block Y4 0
  have y1 := cell_of_block Y4 1
  have hnb := hid (show n ≠ b ∧ w.heap.size < n from by have := hlt1.out; omega)
  simp at y0 y1
  clear hp3 Y4 Q4 H3 Y3 Q3
  have fin := hid (fun (W : World) (hW : RdK 87 b none w W) (hQ : W.heap[w.heap.size]? = some (.cells #[.int .i64 0, .int .i64 0] 28 (0, 0))) => (And.intro (cell_of_block hQ 0) (And.intro (cell_of_block hQ 1) (And.intro (free_of_block hQ 0) (free_of_block hQ 1)))))
  cases s2 with
  | none =>
    have HR := hid (show R = ((0, 0), none) from Hd.out)
    go_wp2_with fail
    refine (htorn.out none w3 H4.out.r).mono ?_
    rintro e w4 ⟨rfl, hr4, hk4⟩
    have H5 := hid (H4.out.next hr4 hk4)
    have Q5 := block_kept HQ4.out hk4 (by omega)
    obtain ⟨a0, a1, a2, a3⟩ := fin.out w4 H5.out Q5
    simp at a0 a1
    have Hset := hid (show RdK 87 b none w ((w4.setCell ⟨w.heap.size, 0, none⟩ (.int .i64 0)).setCell ⟨w.heap.size, 1, none⟩ (.int .i64 0)) from (H5.out.set (Nat.le_refl _) (by omega) _).set (Nat.le_refl _) (by omega) _)
    have Bset := hid (block_setCell (block_setCell Q5 0 (.int .i64 0)) 1 (.int .i64 0))
    clear hr4 hk4 Q5
    go_wp2
    exact bodyPost_ret (v := .agg #[.int .i64 0, .int .i64 0]) (by simp [results, Tryz.results77, go_sem, cell_of_block Bset.out 0, cell_of_block Bset.out 1]) rfl ⟨by rw [HR.out], by rw [HR.out]; exact Hset.out.r, Hset.out.k⟩
  | some r =>
    have Hd2 := hid (show R = if dchk (x, y) then ((x, y), some r) else ((0, 0), none) from Hd.out)
    go_wp2_with fail
    refine (hchk.out w3).mono ?_
    rintro e w4 ⟨rfl, hp4⟩
    have H5 := hid (H4.out.pure hp4)
    have Y5 := (hp4.block _ (lt_of_block HY4.out)).trans HY4.out
    have Q5 := (hp4.block _ (lt_of_block HQ4.out)).trans HQ4.out
    cases hc : dchk (x, y) with
    | false =>
      have HR := hid (show R = ((0, 0), none) from by rw [Hd2.out, hc]; rfl)
      have HQ5 := hid Q5
      clear hp4 y0 y1 hc Y5 Q5
      go_wp2_with fail
      refine (htorn.out _ w4 H5.out.r).mono ?_
      rintro e w5 ⟨rfl, hr5, hk5⟩
      have H6 := hid (H5.out.next hr5 hk5)
      have Q6 := block_kept HQ5.out hk5 (by omega)
      obtain ⟨a0, a1, a2, a3⟩ := fin.out w5 H6.out Q6
      simp at a0 a1
      have Hset := hid (show RdK 87 b none w ((w5.setCell ⟨w.heap.size, 0, none⟩ (.int .i64 0)).setCell ⟨w.heap.size, 1, none⟩ (.int .i64 0)) from (H6.out.set (Nat.le_refl _) (by omega) _).set (Nat.le_refl _) (by omega) _)
      have Bset := hid (block_setCell (block_setCell Q6 0 (.int .i64 0)) 1 (.int .i64 0))
      clear hr5 hk5 Q6
      go_wp2
      exact bodyPost_ret (v := .agg #[.int .i64 0, .int .i64 0]) (by simp [results, Tryz.results77, go_sem, cell_of_block Bset.out 0, cell_of_block Bset.out 1]) rfl ⟨by rw [HR.out], by rw [HR.out]; exact Hset.out.r, Hset.out.k⟩
    | true =>
      have HR := hid (show R = ((x, y), some r) from by rw [Hd2.out, hc]; rfl)
      have a0 := cell_of_block Q5 0
      have a1 := cell_of_block Q5 1
      have a2 := free_of_block Q5 0
      have a3 := free_of_block Q5 1
      have z0 := cell_of_block Y5 0
      have z1 := cell_of_block Y5 1
      simp at a0 a1 z0 z1
      have Hset := hid (show RdK 87 b (some r) w ((w4.setCell ⟨w.heap.size, 0, none⟩ (.int .i64 x)).setCell ⟨w.heap.size, 1, none⟩ (.int .i64 y)) from (H5.out.set (Nat.le_refl _) (by omega) _).set (Nat.le_refl _) (by omega) _)
      have Bset := hid (block_setCell (block_setCell Q5 0 (.int .i64 x)) 1 (.int .i64 y))
      clear hp4 y0 y1 hc Y5 Q5
      go_wp2
      exact bodyPost_ret (v := .agg #[.int .i64 x, .int .i64 y]) (by simp [results, Tryz.results77, go_sem, cell_of_block Bset.out 0, cell_of_block Bset.out 1]) rfl ⟨by rw [HR.out], by rw [HR.out]; exact Hset.out.r, Hset.out.k⟩

/-- What a call hands back that reads a row, and how it leaves the reader. -/
def RdRowP (T : TypeId) (b : Nat) (l : List Dot) (s : RS) (w : World) (e : Ending) (w' : World) : Prop := ∃ v, e = .returned v ∧ Dots w' v l ∧ (∀ k, v.rb = some k → w.heap.size ≤ k) ∧ RdAt T b s w' ∧ Kept (fun k => k = b) w w'
theorem own_kept {S : Nat → Prop} {w w' : World} {base e size : Nat} {v : Value} {n : Nat} {xs : List Value} (h : w.ownsRow base e size v n xs) (hk : Kept S w w') (hS : ∀ k, v.ownBlock = some k → ¬ S k) : w'.ownsRow base e size v n xs := by
  obtain ⟨hl, h | ⟨g, cap, cur, rfl, hb, hg, h1, h2, h3, h4⟩⟩ := h
  · exact ⟨hl, .inl h⟩
  · exact ⟨hl, .inr ⟨g, cap, cur, rfl, hb, (hk.block g (lt_of_block hg) (hS g rfl)).trans hg, h1, h2, h3, h4⟩⟩
theorem rdInt_zero (most : Int) (s : RS) (h : (rdInt most s).2 = none) : (rdInt most s).1 = 0 := by
  unfold rdInt at h ⊢
  split
  · rfl
  · rename_i n r e
    rw [e] at h
    dsimp only at h
    split
    · rfl
    · rename_i hn; rw [if_neg hn] at h; cases h
theorem RdK.grown {T : TypeId} {b : Nat} {s : RS} {w W W' : World} {row : Option Nat} (h : RdK T b s w W) (hg : W.grownBy W' row) (hr : ∀ k, row = some k → w.heap.size ≤ k) (hb : b < w.heap.size) : RdK T b s w W' :=
  ⟨h.r.kept (S := fun k => row = some k) (Kept.grown (S := fun k => row = some k) (Kept.refl _ _) hg (fun k hk _ => hk)) (fun e => by have := hr b e; omega), h.k.grown hg (fun k hk hl => by have := hr k hk; omega)⟩
theorem RdK.lt {T : TypeId} {b : Nat} {s : RS} {w W : World} (h : RdK T b s w W) : w.heap.size ≤ W.heap.size := h.k.size
/-- k items are read: the row so far. -/
structure RwI (T : TypeId) (b : Nat) (n : Nat) (total : List Dot × RS) (w : World) (k : Nat) (v : Value) (acc : List Dot) (s : List UInt8) (W : World) : Prop where
  kn : k ≤ n
  len : acc.length = k
  r : RdK T b (some s) w W
  own : W.ownsRow w.heap.size 28 2 v acc.length (dvs acc)
  t : rdItems rdDot (n - k) acc (some s) = total

set_option maxRecDepth 8000 in
set_option maxHeartbeats 4000000 in
theorem dreadrow_any (b : Nat) (s : RS) (most : Int) (w : World) (h : RdAt 87 b s w) (hm0 : 0 ≤ most) (hm : most ≤ 100000) :
    Calls Tryz.prog 107 #[.pointer (some ⟨b, 0, none⟩), .int .i64 most] w (RdRowP 87 b (rdRow most s).1 (rdRow most s).2 w) := by
  have Hb := hid h.lt
  have hi1 := hid (mintr_any b s most w h (by omega) (by omega))
  have hbd := rdInt_bd most s
  have hz := rdInt_zero most s
  have Hr : Hid (rdRow most s = match rdItems rdDot (rdInt most s).1.toNat [] (rdInt most s).2 with
    | (_, none) => ([], none)
    | (l, some r) => if riseb l then (l, some r) else ([], none)) := (show _ = _ from rfl)
  have hfine := hid (fun s W (hW : RdAt 87 b s W) => fine_any b s W hW)
  have hread := hid (fun s W (hW : RdAt 87 b s W) => dread_any b s W hW)
  have htorn := hid (fun s W (hW : RdAt 87 b s W) => dtorn_any b s W hW)
  have hrises := hid (fun v l W (hW : Dots W v l) hl => risesb_any v l W hW hl)
  have Hw := hid (RdK.start h)
  unfold RdP at hi1 hread htorn
  unfold dv at hread
  generalize rdRow most s = R at *
  generalize rdInt most s = N1 at *
  obtain ⟨x, s1⟩ := N1
  dsimp only at hi1 hbd Hr hz
  obtain ⟨n, rfl⟩ : ∃ n : Nat, x = n := ⟨x.toNat, by omega⟩
  have Hr2 := hid Hr.out
  rw [Int.toNat_natCast] at Hr2
  obtain ⟨total, htot⟩ : ∃ t, t = rdItems rdDot n [] s1 := ⟨_, rfl⟩
  rw [← htot] at Hr2
  have hbn := hbd.2 hm0
  clear h hbd Hr
  cases s1 with
  | none =>
    have hn0 : n = 0 := by have := hz rfl; omega
    subst hn0
    have HR := hid (show R = ([], none) from by rw [Hr2.out, htot]; rfl)
    clear htot hz Hr2
    go_enter Tryz.func107, Tryz.ntmps107
    go_wp2_with fail
    refine hi1.out.mono ?_
    rintro e w1 ⟨rfl, hr1, hk1⟩
    have H1 := hid (Hw.out.next hr1 hk1)
    clear hr1 hk1
    go_wp2_with fail
    go_loopw [9] (fun i wr => i = .int .i64 0 ∧ wr = w1) (fun _ _ => 0)
    case atStart => exact ⟨rfl, rfl⟩
    case round =>
      obtain ⟨rfl, rfl⟩ := hrel
      go_wp2_with fail
      refine (hfine.out none _ H1.out.r).mono ?_
      rintro e w2 ⟨rfl, hp2⟩
      have H2 := hid (H1.out.pure hp2)
      clear hp2
      go_wp2_with fail
      refine (htorn.out none w2 H2.out.r).mono ?_
      rintro e w3 ⟨rfl, hr3, hk3⟩
      have H3 := hid (H2.out.next hr3 hk3)
      clear hr3 hk3
      go_wp2
      go_ret
      exact ⟨_, rfl, by rw [HR.out]; exact Row.nil _ _, fun k hk => by simp [Value.rb] at hk, by rw [HR.out]; exact H3.out.r, H3.out.k⟩
  | some r1 =>
    have Htot := hid htot
    clear htot hz
    go_enter Tryz.func107, Tryz.ntmps107
    go_wp2_with fail
    refine hi1.out.mono ?_
    rintro e w1 ⟨rfl, hr1, hk1⟩
    have H1 := hid (Hw.out.next hr1 hk1)
    clear hr1 hk1
    go_wp2_with fail
    go_loopw [5, 9] (fun v i wr => ∃ (k : Nat) (acc : List Dot) (s : List UInt8), i = .int .i64 k ∧ RwI 87 b n total w k v acc s wr) (fun _ i _ => n - (RowKit.intOf i).toNat)
    case atStart => exact ⟨0, [], r1, rfl, Nat.zero_le _, rfl, H1.out, World.ownsRow_nil _ _ _ _, Htot.out.symm⟩
    case round =>
      obtain ⟨k, acc, s, rfl, hI⟩ := hrel
      have HI := hid hI
      have hkn := hI.kn
      have Hlen := hid hI.len
      have hl100 : acc.length ≤ 100000 := by have := hI.len; omega
      obtain ⟨a, c, rfl⟩ := own_shape_d hI.own
      clear hI
      by_cases hlt : k < n
      · have hlt' : (k : Int) < (n : Int) := by omega
        have hrd := hid (hread.out (some s))
        have Hstep := hid (show (∀ x, rdDot (some s) = (x, none) → total = ([], none)) ∧ (∀ x r, rdDot (some s) = (x, some r) → rdItems rdDot (n - (k + 1)) (acc ++ [x]) (some r) = total) from by
          have e : n - k = (n - (k + 1)) + 1 := by omega
          have ht := HI.out.t
          rw [e] at ht
          exact ⟨fun x hx => by rw [← ht, rdItems_torn rdDot _ _ _ x hx], fun x r hx => by rw [← ht, rdItems_fine rdDot _ _ _ x r hx]⟩)
        generalize rdDot (some s) = D at *
        obtain ⟨⟨d1, d2⟩, s2⟩ := D
        dsimp only at hrd
        go_wp2_with fail
        refine (hrd.out wr HI.out.r.r).mono ?_
        rintro e w2 ⟨rfl, hr2, hk2⟩
        have H2 := hid (HI.out.r.next hr2 hk2)
        have Hown := hid (own_kept HI.out.own hk2 (fun j hj e => by have := (HI.out.own.lt j hj).1; have := Hb.out; omega))
        have b4 : w.heap.size ≤ (w2.alloc (.cells #[.int .i64 d1, .int .i64 d2] 28)).heap.size := by have := H2.out.lt; simp; omega
        clear hr2 hk2
        go_wp2_with (at_builtin; refine wpList_append_dots rfl _ _ rfl w.heap.size _ acc acc.length rfl (Hown.out.alloc _) _ [(d1, d2)] 1 rfl (dots_lit w2 d1 d2) (by omega) b4 ?_)
        intro v3 w3 hown3 hg3
        have H3 := hid (RdK.grown (H2.out.alloc _) hg3 (fun j hj => (Hown.out.lt j hj).1) Hb.out)
        have Hown3 := hid (show w3.ownsRow w.heap.size 28 2 v3 (acc ++ [(d1, d2)]).length (dvs (acc ++ [(d1, d2)])) from by rw [List.length_append]; exact hown3)
        obtain ⟨a3, c3, rfl⟩ := own_shape_d hown3
        clear hown3 hg3 b4
        go_wp2_with fail
        refine (hfine.out s2 w3 H3.out.r).mono ?_
        rintro e w4 ⟨rfl, hp4⟩
        have H4 := hid (H3.out.pure hp4)
        have Hown4 := hid (own_pure Hown3.out hp4)
        clear hp4
        cases s2 with
        | none =>
          have HR := hid (show R = ([], none) from by rw [Hr2.out, Hstep.out.1 _ rfl])
          go_wp2
          go_ret
          exact ⟨_, rfl, by rw [HR.out]; exact Row.nil _ _, fun k hk => by simp [Value.rb] at hk, by rw [HR.out]; exact H4.out.r, H4.out.k⟩
        | some r2 =>
          have HN := hid (Hstep.out.2 _ _ rfl)
          go_wp2
          go_roundw
          case rel => exact ⟨k + 1, acc ++ [(d1, d2)], r2, by go_num, by omega, by simp [Hlen.out], H4.out, by simpa using Hown4.out, HN.out⟩
          case measure => simp [RowKit.intOf]; omega
      · obtain rfl : k = n := by omega
        have hlt' : ¬ (k : Int) < (k : Int) := by omega
        have Ht := hid (show total = (acc, some s) from by have := HI.out.t; rw [Nat.sub_self] at this; exact this.symm)
        have HRr := hid (show R = if riseb acc then (acc, some s) else ([], none) from by rw [Hr2.out, Ht.out])
        have H1 := hid HI.out.r
        have hrs := hid (fun W (hW : Dots W (.slice a acc.length c) acc) => hrises.out _ acc W hW (by omega))
        have HD := hid (fun W (hW : Pure wr W) => (show Dots W (.slice a acc.length c) acc from Row.pure (Row.of_own HI.out.own) hW))
        have Hfr := hid (fun j (hj : (Value.slice a acc.length c).rb = some j) => (HI.out.own.lt j (rb_own hj)).1)
        generalize riseb acc = B at *
        go_wp2_with fail
        refine (hfine.out (some s) wr H1.out.r).mono ?_
        rintro e w2 ⟨rfl, hp2⟩
        have H2 := hid (H1.out.pure hp2)
        have Hp2 := hid hp2
        clear hp2
        go_wp2_with fail
        refine (hrs.out w2 (HD.out w2 Hp2.out)).mono ?_
        rintro e w3 ⟨rfl, hp3⟩
        have H3 := hid (H2.out.pure hp3)
        have Hp3 := hid (Hp2.out.then_ hp3)
        clear hp3
        cases B with
        | false =>
          have HR := hid (show R = ([], none) from HRr.out)
          go_wp2_with fail
          refine (htorn.out (some s) w3 H3.out.r).mono ?_
          rintro e w4 ⟨rfl, hr4, hk4⟩
          have H4 := hid (H3.out.next hr4 hk4)
          clear hr4 hk4
          go_wp2
          go_ret
          exact ⟨_, rfl, by rw [HR.out]; exact Row.nil _ _, fun k hk => by simp [Value.rb] at hk, by rw [HR.out]; exact H4.out.r, H4.out.k⟩
        | true =>
          have HR := hid (show R = (acc, some s) from HRr.out)
          go_wp2
          go_ret
          exact ⟨_, rfl, by rw [HR.out]; exact HD.out w3 Hp3.out, Hfr.out, by rw [HR.out]; exact H3.out.r, H3.out.k⟩
end Go.Proofs.YtbcbmnifbflmaaaGreat

namespace Go.Proofs.YtbcbmnifbflmaaaGreat
open Go.RowKit Go.Maps Go.Shelf Go.Sort

def RdCtxP (T : TypeId) (b : Nat) (X : List Dot × List Dot) (s : RS) (w : World) (e : Ending) (w' : World) : Prop := ∃ v0 v1, e = .returned (.agg #[v0, v1]) ∧ CR v0 v1 X w' ∧ (∀ k, v0.rb = some k → w.heap.size ≤ k) ∧ (∀ k, v1.rb = some k → w.heap.size ≤ k) ∧ RdAt T b s w' ∧ Kept (fun k => k = b) w w'
theorem Dots.kept {S : Nat → Prop} {w w' : World} {v : Value} {l : List Dot} (h : Dots w v l) (hk : Kept S w w') (hS : ∀ k, v.rb = some k → ¬ S k) : Dots w' v l := Row.kept h hk hS
theorem kset (W : World) (n i : Nat) (v : Value) : Kept (fun k => k = n) W (W.setCell ⟨n, i, none⟩ v) := Kept.setCell (S := fun k => k = n) (Kept.refl _ _) (p := ⟨n, i, none⟩) (fun _ => rfl) v

set_option maxRecDepth 8000 in
set_option maxHeartbeats 4000000 in
theorem cread_any (b : Nat) (s : RS) (w : World) (h : RdAt 87 b s w) :
    Calls Tryz.prog 75 #[.pointer (some ⟨b, 0, none⟩)] w (RdCtxP 87 b (rdCtx s).1 (rdCtx s).2 w) := by
  have hb := h.lt
  have Hb := hid hb
  have hrow := hid (fun s W (hW : RdAt 87 b s W) => dreadrow_any b s 1000 W hW (by decide) (by decide))
  have hfine := hid (fun s W (hW : RdAt 87 b s W) => fine_any b s W hW)
  have hneg := hid (fun s W (hW : RdAt 87 b s W) => (show Calls _ _ _ _ _ from by have := mintr_any b s (-1) W hW (by decide) (by decide); rw [rdInt_neg (-1) (by decide)] at this; exact this))
  have hchk := hid (fun vb vc B C W h1 h2 l1 l2 => checkb_any vb vc B C W h1 h2 l1 l2)
  unfold cv at hchk
  unfold RdP at hneg
  unfold RdRowP at hrow
  have Hd : Hid (rdCtx s = match rdRow 1000 (rdRow 1000 s).2 with
    | (_, none) => (([], []), none)
    | (C, some r) => if cchk (rdRow 1000 s).1 C then (((rdRow 1000 s).1, C), some r) else (([], []), none)) := (show _ = _ from rfl)
  have hl1 := rdRow_len s
  have hl2 := rdRow_len (rdRow 1000 s).2
  have hi1 := hid (hrow.out s)
  have hi2 := hid (hrow.out (rdRow 1000 s).2)
  generalize rdCtx s = R at *
  generalize rdRow 1000 (rdRow 1000 s).2 = N2 at *
  generalize rdRow 1000 s = N1 at *
  obtain ⟨B, s1⟩ := N1
  obtain ⟨C, s2⟩ := N2
  dsimp only at hi1 hi2 Hd hl1 hl2
  clear hrow
  obtain ⟨wz, hwz⟩ : ∃ wz, wz = w.alloc (.cells #[.slice none 0 0, .slice none 0 0] 31) := ⟨_, rfl⟩
  have Hz := hid (show RdK 87 b s w wz from by rw [hwz]; exact (RdK.start h).alloc _)
  have Bz := hid (show wz.heap[w.heap.size]? = some (.cells #[.slice none 0 0, .slice none 0 0] 31 (0, 0)) from by rw [hwz]; exact block_alloc_new _ _)
  have Sz := hid (show wz.heap.size = w.heap.size + 1 from by rw [hwz]; simp)
  clear h
  go_enter Tryz.func75, Tryz.ntmps75
  go_wp2_with fail
  rw [← hwz]
  clear hwz
  refine (hi1.out wz Hz.out.r).mono ?_
  rintro e w1 ⟨u0, rfl, hd1, hf1, hr1, hk1⟩
  obtain ⟨a0, c0, rfl⟩ := hd1.shape
  have Z1 := hid (block_kept Bz.out hk1 (by omega))
  have hlt1 := hid (show w.heap.size + 1 ≤ w1.heap.size from by have := hk1.size; have := Sz.out; omega)
  have hf1' := hid (show ∀ k, (Value.slice a0 B.length c0).rb = some k → w.heap.size < k ∧ k < w1.heap.size from fun k hk => by have := hf1 k hk; have := Sz.out; have := Row.lt hd1 k hk; omega)
  obtain ⟨v1, hv1⟩ : ∃ v1, v1 = w1.alloc (.cells #[.slice a0 B.length c0, .slice none 0 0] 31) := ⟨_, rfl⟩
  have H1 := hid (show RdK 87 b s1 w v1 from by rw [hv1]; exact (Hz.out.next hr1 hk1).alloc _)
  have D1 := hid (show Dots v1 (.slice a0 B.length c0) B from by rw [hv1]; exact Row.pure hd1 ((Below.refl _ _).alloc (Nat.le_refl _) _))
  have Y1 := hid (show v1.heap[w1.heap.size]? = some (.cells #[.slice a0 B.length c0, .slice none 0 0] 31 (0, 0)) from by rw [hv1]; exact block_alloc_new _ _)
  have Q1 := hid (show v1.heap[w.heap.size]? = some (.cells #[.slice none 0 0, .slice none 0 0] 31 (0, 0)) from by rw [hv1]; exact block_alloc_old Z1.out _)
  have S1 := hid (show v1.heap.size = w1.heap.size + 1 from by rw [hv1]; simp)
  clear hr1 hk1 Z1 Bz Hz hi1 hd1 hf1
  go_wp2_with fail
  rw [← hv1]
  clear hv1
  generalize w1.heap.size = n at *
  refine (hi2.out v1 H1.out.r).mono ?_
  rintro e w2 ⟨u1, rfl, hd2, hf2, hr2, hk2⟩
  obtain ⟨a1, c1, rfl⟩ := hd2.shape
  have hf2' := hid (show ∀ k, (Value.slice a1 C.length c1).rb = some k → n < k from fun k hk => by have := hf2 k hk; have := S1.out; omega)
  have Y2 := block_kept Y1.out hk2 (by have := hlt1.out; omega)
  have Q2 := block_kept Q1.out hk2 (by omega)
  have H2 := hid (H1.out.next hr2 hk2)
  have D2 := hid (Dots.kept D1.out hk2 (fun k hk e => by have := (hf1'.out k hk).1; omega))
  have q1 := cell_of_block Y2 1
  have f1 := free_of_block Y2 1
  simp at q1
  obtain ⟨v2, hv2⟩ : ∃ v2, v2 = w2.setCell ⟨n, 1, none⟩ (.slice a1 C.length c1) := ⟨_, rfl⟩
  have K2 := hid (show Kept (fun k => k = n) w2 v2 from by rw [hv2]; exact kset _ _ _ _)
  have D3 := hid (show CR (.slice a0 B.length c0) (.slice a1 C.length c1) (B, C) v2 from ⟨Dots.kept D2.out K2.out (fun k hk e => by have := (hf1'.out k hk).2; omega), Dots.kept hd2 K2.out (fun k hk e => by have := hf2'.out k hk; omega)⟩)
  have Y3 := hid (show v2.heap[n]? = some (.cells #[.slice a0 B.length c0, .slice a1 C.length c1] 31 (0, 0)) from by rw [hv2]; have := block_setCell Y2 1 (.slice a1 C.length c1); simpa using this)
  have Q3 := hid (show v2.heap[w.heap.size]? = some (.cells #[.slice none 0 0, .slice none 0 0] 31 (0, 0)) from by rw [hv2]; exact block_setCell_other Q2 _ (by show ¬ n = _; have := hlt1.out; omega) _)
  have H3 := hid (show RdK 87 b s2 w v2 from by rw [hv2]; exact H2.out.set (by have := hlt1.out; omega) (by have := hlt1.out; omega) _)
  clear hr2 hk2 Y1 Q1 H1 H2 hi2 Y2 Q2 hd2 hf2 D2 D1 K2
  go_wp2_with fail
  rw [← hv2]
  clear hv2 q1 f1
  refine (hfine.out s2 v2 H3.out.r).mono ?_
  rintro e w3 ⟨rfl, hp3⟩
  have H4 := hid (H3.out.pure hp3)
  have Y4 := (hp3.block _ (lt_of_block Y3.out)).trans Y3.out
  have Q4 := (hp3.block _ (lt_of_block Q3.out)).trans Q3.out
  have D4 := hid (D3.out.pure hp3)
  have HY4 := hid Y4
  have HQ4 := hid Q4
  have y0 := cell_of_block Y4 0
  have y1 := cell_of_block Y4 1
  have hnb := hid (show n ≠ b ∧ w.heap.size < n from by have := hlt1.out; omega)
  simp at y0 y1
  clear hp3 Y4 Q4 H3 Y3 Q3 D3
  cases s2 with
  | none =>
    have HR := hid (show R = (([], []), none) from Hd.out)
    go_wp2_with fail
    refine (hneg.out none w3 H4.out.r).mono ?_
    rintro e w4 ⟨rfl, hr4, hk4⟩
    have H5 := hid (H4.out.next hr4 hk4)
    have Q5 := block_kept HQ4.out hk4 (by omega)
    have a0 := cell_of_block Q5 0
    have a1 := cell_of_block Q5 1
    have a2 := free_of_block Q5 0
    have a3 := free_of_block Q5 1
    simp at a0 a1
    have Hset := hid (show RdK 87 b none w ((w4.setCell ⟨w.heap.size, 0, none⟩ (.slice none 0 0)).setCell ⟨w.heap.size, 1, none⟩ (.slice none 0 0)) from (H5.out.set (Nat.le_refl _) (by omega) _).set (Nat.le_refl _) (by omega) _)
    have Bset := hid (block_setCell (block_setCell Q5 0 (.slice none 0 0)) 1 (.slice none 0 0))
    clear hr4 hk4 Q5
    go_wp2
    exact bodyPost_ret (v := .agg #[.slice none 0 0, .slice none 0 0]) (by simp [results, Tryz.results75, go_sem, cell_of_block Bset.out 0, cell_of_block Bset.out 1]) rfl ⟨_, _, rfl, by rw [HR.out]; exact ⟨Row.nil _ _, Row.nil _ _⟩, fun k hk => by simp [Value.rb] at hk, fun k hk => by simp [Value.rb] at hk, by rw [HR.out]; exact Hset.out.r, Hset.out.k⟩
  | some r =>
    have Hd2 := hid (show R = if cchk B C then ((B, C), some r) else (([], []), none) from Hd.out)
    go_wp2_with fail
    refine (hchk.out _ _ B C w3 D4.out.1 D4.out.2 (by omega) (by omega)).mono ?_
    rintro e w4 ⟨rfl, hp4⟩
    have H5 := hid (H4.out.pure hp4)
    have Y5 := (hp4.block _ (lt_of_block HY4.out)).trans HY4.out
    have Q5 := (hp4.block _ (lt_of_block HQ4.out)).trans HQ4.out
    have D5 := hid (D4.out.pure hp4)
    unfold errOf
    cases hc : cchk B C with
    | false =>
      have HR := hid (show R = (([], []), none) from by rw [Hd2.out, hc]; rfl)
      have HQ5 := hid Q5
      clear hp4 y0 y1 hc Y5 Q5
      go_wp2_with fail
      refine (hneg.out _ w4 H5.out.r).mono ?_
      rintro e w5 ⟨rfl, hr5, hk5⟩
      have H6 := hid (H5.out.next hr5 hk5)
      have Q6 := block_kept HQ5.out hk5 (by omega)
      have a0 := cell_of_block Q6 0
      have a1 := cell_of_block Q6 1
      have a2 := free_of_block Q6 0
      have a3 := free_of_block Q6 1
      simp at a0 a1
      have Hset := hid (show RdK 87 b none w ((w5.setCell ⟨w.heap.size, 0, none⟩ (.slice none 0 0)).setCell ⟨w.heap.size, 1, none⟩ (.slice none 0 0)) from (H6.out.set (Nat.le_refl _) (by omega) _).set (Nat.le_refl _) (by omega) _)
      have Bset := hid (block_setCell (block_setCell Q6 0 (.slice none 0 0)) 1 (.slice none 0 0))
      clear hr5 hk5 Q6
      go_wp2
      exact bodyPost_ret (v := .agg #[.slice none 0 0, .slice none 0 0]) (by simp [results, Tryz.results75, go_sem, cell_of_block Bset.out 0, cell_of_block Bset.out 1]) rfl ⟨_, _, rfl, by rw [HR.out]; exact ⟨Row.nil _ _, Row.nil _ _⟩, fun k hk => by simp [Value.rb] at hk, fun k hk => by simp [Value.rb] at hk, by rw [HR.out]; exact Hset.out.r, Hset.out.k⟩
    | true =>
      have HR := hid (show R = ((B, C), some r) from by rw [Hd2.out, hc]; rfl)
      have e0 := cell_of_block Q5 0
      have e1 := cell_of_block Q5 1
      have e2 := free_of_block Q5 0
      have e3 := free_of_block Q5 1
      have z0 := cell_of_block Y5 0
      have z1 := cell_of_block Y5 1
      simp at e0 e1 z0 z1
      have Hset := hid (show RdK 87 b (some r) w ((w4.setCell ⟨w.heap.size, 0, none⟩ (.slice a0 B.length c0)).setCell ⟨w.heap.size, 1, none⟩ (.slice a1 C.length c1)) from (H5.out.set (Nat.le_refl _) (by omega) _).set (Nat.le_refl _) (by omega) _)
      have Kset := hid ((kset w4 w.heap.size 0 (.slice a0 B.length c0)).trans (kset _ w.heap.size 1 (.slice a1 C.length c1)))
      have Bset := hid (block_setCell (block_setCell Q5 0 (.slice a0 B.length c0)) 1 (.slice a1 C.length c1))
      have F0 := hid (show ∀ k, (Value.slice a0 B.length c0).rb = some k → w.heap.size < k from fun k hk => (hf1'.out k hk).1)
      have F1 := hid (show ∀ k, (Value.slice a1 C.length c1).rb = some k → w.heap.size < k from fun k hk => by have := hf2'.out k hk; have := hnb.out; omega)
      clear hp4 y0 y1 hc Y5 Q5
      go_wp2
      exact bodyPost_ret (v := .agg #[.slice a0 B.length c0, .slice a1 C.length c1]) (by simp [results, Tryz.results75, go_sem, cell_of_block Bset.out 0, cell_of_block Bset.out 1]) rfl ⟨_, _, rfl, by rw [HR.out]; exact ⟨Dots.kept D5.out.1 Kset.out (fun k hk e => by have := F0.out k hk; omega), Dots.kept D5.out.2 Kset.out (fun k hk e => by have := F1.out k hk; omega)⟩, fun k hk => Nat.le_of_lt (F0.out k hk), fun k hk => Nat.le_of_lt (F1.out k hk), by rw [HR.out]; exact Hset.out.r, Hset.out.k⟩
end Go.Proofs.YtbcbmnifbflmaaaGreat

namespace Go.Proofs.YtbcbmnifbflmaaaGreat
open Go.RowKit Go.Maps Go.Shelf Go.Sort

theorem mmay_parts (x y : Int) (q b : List UInt8) (c : Int) : mmay ((x, y), q, b, c) = (dchk (x, y) && (decide (q ≠ []) && decide (q.length ≤ 40) && decide (b.length ≤ 1000) && decide (0 ≤ c) && decide (c ≤ 1048576))) := by
  unfold mmay
  have : decide (1 ≤ q.length) = decide (q ≠ []) := by
    cases q <;> simp
  dsimp only
  rw [this]
  simp only [Bool.and_assoc]
theorem bs_eqnil (q : List UInt8) : ((bs q).toList = ([] : List UInt8)) = (q = []) := by rw [bs_list3]
set_option maxRecDepth 8000 in
set_option maxHeartbeats 4000000 in
theorem mmayg_any (m : Msg) (w : World) : Calls Tryz.prog 57 #[mv m] w fun e w' => e = .returned (.bool (mmay m)) ∧ Pure w w' := by
  obtain ⟨⟨x, y⟩, q, b, c⟩ := m
  obtain ⟨wz, hwz⟩ : ∃ wz, wz = w.alloc (.cells #[.int .i64 x, .int .i64 y, .string (bs q), .string (bs b), .int .i64 c] 41) := ⟨_, rfl⟩
  have Hp := hid (show Pure w wz from by rw [hwz]; exact (Below.refl _ _).alloc (Nat.le_refl _) _)
  have Hm := hid (show MX w.heap.size ((x, y), q, b, c) wz from by rw [hwz]; exact MX.made w ((x, y), q, b, c))
  have hc := hid (chk_any (x, y) wz)
  have HM := hid (mmay_parts x y q b c)
  have hqs := bs_size q
  have hbs := bs_size b
  unfold dv at hc
  dsimp only at hc
  unfold mv
  dsimp only
  generalize mmay ((x, y), q, b, c) = V at *
  generalize dchk (x, y) = D at *
  obtain ⟨x0, x1, x2, x3, x4⟩ := Hm.out.cells
  rw [hwz] at x0 x1 x2 x3 x4
  cases D with
  | false =>
    have HV := hid (show V = false from by rw [HM.out]; rfl)
    go_enter Tryz.func57, Tryz.ntmps57
    go_wp2_with fail
    rw [← hwz]
    clear hwz x0 x1 x2 x3 x4
    refine hc.out.mono ?_
    rintro e w1 ⟨rfl, hp1⟩
    have Hp1 := hid (Hp.out.then_ hp1)
    clear hp1
    go_wp2
    go_ret
    exact ⟨by rw [HV.out]; rfl, Hp1.out⟩
  | true =>
    have HM2 := hid (show V = (decide (q ≠ []) && decide (q.length ≤ 40) && decide (b.length ≤ 1000) && decide (0 ≤ c) && decide (c ≤ 1048576)) from by rw [HM.out]; rfl)
    have hen := bs_eqnil q
    have key : (q = [] ∧ V = false) ∨ (q ≠ [] ∧ ¬ (q.length : Int) ≤ 40 ∧ V = false) ∨ (q ≠ [] ∧ (q.length : Int) ≤ 40 ∧ ¬ (b.length : Int) ≤ 1000 ∧ V = false) ∨ (q ≠ [] ∧ (q.length : Int) ≤ 40 ∧ (b.length : Int) ≤ 1000 ∧ ¬ (0 : Int) ≤ c ∧ V = false) ∨ (q ≠ [] ∧ (q.length : Int) ≤ 40 ∧ (b.length : Int) ≤ 1000 ∧ (0 : Int) ≤ c ∧ ¬ c ≤ 1048576 ∧ V = false) ∨ (q ≠ [] ∧ (q.length : Int) ≤ 40 ∧ (b.length : Int) ≤ 1000 ∧ (0 : Int) ≤ c ∧ c ≤ 1048576 ∧ V = true) := by
      rw [HM2.out]
      by_cases h1 : q = []
      · exact .inl ⟨h1, by simp [h1]⟩
      by_cases h2 : (q.length : Int) ≤ 40
      · by_cases h3 : (b.length : Int) ≤ 1000
        · by_cases h4 : 0 ≤ c
          · by_cases h5 : c ≤ 1048576
            · exact .inr (.inr (.inr (.inr (.inr ⟨h1, h2, h3, h4, h5, by simp [h1, h4, h5]; omega⟩))))
            · exact .inr (.inr (.inr (.inr (.inl ⟨h1, h2, h3, h4, h5, by simp [h5]⟩))))
          · exact .inr (.inr (.inr (.inl ⟨h1, h2, h3, h4, by simp [h4]⟩)))
        · exact .inr (.inr (.inl ⟨h1, h2, h3, by simp [show ¬ b.length ≤ 1000 by omega]⟩))
      · exact .inr (.inl ⟨h1, h2, by simp [show ¬ q.length ≤ 40 by omega]⟩)
    rcases key with ⟨h1, hV⟩ | ⟨h1, h2, hV⟩ | ⟨h1, h2, h3, hV⟩ | ⟨h1, h2, h3, h4, hV⟩ | ⟨h1, h2, h3, h4, h5, hV⟩ | ⟨h1, h2, h3, h4, h5, hV⟩
    all_goals
      have HV := hid hV
      have hemp : (bs q).toList.isEmpty = q.isEmpty := by rw [bs_list3]
      first
        | (subst h1; simp only [List.isEmpty_nil] at hemp)
        | (have hq : q.isEmpty = false := by (cases q; exact absurd rfl h1; rfl)
           rw [hq] at hemp)
      clear hV
      go_enter Tryz.func57, Tryz.ntmps57
      go_wp2_with fail
      rw [← hwz]
      clear hwz x0 x1 x2 x3 x4
      refine hc.out.mono ?_
      rintro e w1 ⟨rfl, hp1⟩
      obtain ⟨x0, x1, x2, x3, x4⟩ := (Hm.out.pure hp1).cells
      have Hp1 := hid (Hp.out.then_ hp1)
      clear hp1
      go_wp2
      go_ret
      exact ⟨by rw [HV.out]; first | rfl | simp [h5], Hp1.out⟩

set_option maxRecDepth 8000 in
set_option maxHeartbeats 4000000 in
theorem bcheck_any5 (v0 v1 v2 : Value) (g : Bag) (w : World) (hr : BR3 v0 v1 v2 g w) (hl0 : g.1.length ≤ 100000) (hl1 : g.2.1.length ≤ 100000) (hl2 : g.2.2.length ≤ 100000) :
    Calls Tryz.prog 32 #[.agg #[v0, v1, v2]] w fun e w' => e = .returned (.int .i64 (errOf (bchk g))) ∧ Pure w w' := by
  obtain ⟨M, B, C⟩ := g
  obtain ⟨h0, h1, h2⟩ := hr
  dsimp only at h0 h1 h2 hl0 hl1 hl2
  obtain ⟨a0, c0, rfl⟩ := h0.shape
  obtain ⟨wz, hwz⟩ : ∃ wz, wz = w.alloc (.cells #[.slice a0 M.length c0, v1, v2] 33) := ⟨_, rfl⟩
  have Hpz := hid (show Pure w wz from by rw [hwz]; exact (Below.refl _ _).alloc (Nat.le_refl _) _)
  have hbk : Hid (wz.heap[w.heap.size]? = some (.cells #[.slice a0 M.length c0, v1, v2] 33 (0, 0))) := by
    show wz.heap[w.heap.size]? = _
    rw [hwz]
    exact block_alloc_new _ _
  have hC : Hid (∀ W, Pure wz W → (W.cell? ⟨w.heap.size, 0, none⟩ = some (.slice a0 M.length c0) ∧ W.cell? ⟨w.heap.size, 1, none⟩ = some v1 ∧ W.cell? ⟨w.heap.size, 2, none⟩ = some v2)) := fun W hW => by
    have e0 := (hW.block _ (lt_of_block hbk.out)).trans hbk.out
    exact ⟨cell_of_block e0 0, cell_of_block e0 1, cell_of_block e0 2⟩
  have HM := hid (fun W (hW : Pure wz W) => (Row.pure h0 (Hpz.out.then_ hW) : Msgs W (.slice a0 M.length c0) M))
  have HX := hid (fun W (hW : Pure wz W) => (show Dots W v1 B ∧ Dots W v2 C from ⟨Row.pure h1 (Hpz.out.then_ hW), Row.pure h2 (Hpz.out.then_ hW)⟩))
  have hcc := hid (fun W (hW : Pure wz W) => checkb_any v1 v2 B C W (HX.out W hW).1 (HX.out W hW).2 hl1 hl2)
  have hmay := hid (fun m W => mmayg_any m W)
  have hless := hid (fun x y W => less_any x y W)
  have hhas := hid (fun (hok : COk B C) d W (hW : Pure wz W) => has_any v1 v2 B C d W (HX.out W hW).1 (HX.out W hW).2 (br_rise hok.br) hok.cr (fun d hd => by have := hok.bok d hd; unfold dok at this; omega) hl1 hl2)
  have Hbad := hid (show (cchk B C = false ∨ allB M.length (bat (M, B, C)) = false) → errOf (bchk (M, B, C)) = 1 from fun h => by
    unfold bchk
    dsimp only
    rcases h with h | h <;> rw [h] <;> simp [errOf])
  have Hgood := hid (show cchk B C = true → allB M.length (bat (M, B, C)) = true → errOf (bchk (M, B, C)) = 0 from fun h1 h2 => by
    unfold bchk
    dsimp only
    rw [h1, h2]; rfl)
  generalize errOf (bchk (M, B, C)) = E at *
  obtain ⟨g0, g1, g2⟩ := hC.out wz (Below.refl _ _)
  clear h0 h1 h2 hl1 hl2
  unfold dv cv at *
  unfold mv at hmay
  unfold errOf at hcc
  cases hcX : cchk B C with
  | false =>
    have HE := hid (Hbad.out (.inl hcX))
    rw [hcX] at hcc
    clear hcX
    go_enter Tryz.func32, Tryz.ntmps32
    go_wp2_with fail
    rw [← hwz]
    clear hwz
    refine (hcc.out wz (Below.refl _ _)).mono ?_
    rintro e w1 ⟨rfl, hp1⟩
    have hx := hid hp1
    clear hp1
    go_wp2
    go_ret
    exact ⟨by rw [HE.out]; rfl, Hpz.out.then_ hx.out⟩
  | true =>
  rw [hcX] at hcc
  have HcX := hid hcX
  have hhas := hid (hhas.out (cchk_iff.1 hcX))
  clear hcX
  go_enter Tryz.func32, Tryz.ntmps32
  go_wp2_with fail
  rw [← hwz]
  clear hwz
  refine (hcc.out wz (Below.refl _ _)).mono ?_
  rintro e w1 ⟨rfl, hp1⟩
  have Hp1 := hid hp1
  obtain ⟨g0, g1, g2⟩ := hC.out w1 hp1
  clear hp1
  go_wp2_with fail
  go_loopw [12] (fun i wr => ∃ k : Nat, k ≤ M.length ∧ i = .int .i64 k ∧ allB k (bat (M, B, C)) = true ∧ Pure wz wr) (fun i _ => M.length - (RowKit.intOf i).toNat)
  case atStart => exact ⟨0, Nat.zero_le _, rfl, rfl, Hp1.out⟩
  case round =>
    obtain ⟨k, hk, rfl, hal, hp⟩ := hrel
    have Hp := hid hp
    have Hal := hid hal
    clear hal
    by_cases hlt : k < M.length
    · have hlt' : (k : Int) < (M.length : Int) := by omega
      have Hrow := hid (HM.out wr hp)
      obtain ⟨b, off, rfl, hb, x0, x1, x2, x3, x4⟩ := Msgs.get Hrow.out hlt
      have hbat := hid (show bat (M, B, C) k = (mmay (M.getD k m0) && chas B C (M.getD k m0).1 && (decide (k = 0) || dlt (M.getD (k - 1) m0).1 (M.getD k m0).1)) from rfl)
      have hNo := hid (fun (e : bat (M, B, C) k = false) => Hbad.out (.inr (allB_false hlt e)))
      have hYes := hid (fun (e : bat (M, B, C) k = true) => allB_next Hal.out e)
      generalize bat (M, B, C) k = V at *
      generalize hgk : M.getD k m0 = z at *
      obtain ⟨⟨z1, z2⟩, zq, zb, zc⟩ := z
      dsimp only at x0 x1 x2 x3 x4 hbat
      obtain ⟨Wd, hWd⟩ : ∃ Wd, Wd = wr.alloc (.cells #[.int .i64 z1, .int .i64 z2, .string (bs zq), .string (bs zb), .int .i64 zc] 41) := ⟨_, rfl⟩
      have hpd : Pure wr Wd := by rw [hWd]; exact (Below.refl _ _).alloc (Nat.le_refl _) _
      have hbd : Wd.heap[wr.heap.size]? = some (.cells #[.int .i64 z1, .int .i64 z2, .string (bs zq), .string (bs zb), .int .i64 zc] 41 (0, 0)) := by rw [hWd]; exact block_alloc_new _ _
      have hmy := hid (fun W => hmay.out ((z1, z2), zq, zb, zc) W)
      have hhs := hid (fun W (hW : Pure wz W) => hhas.out (z1, z2) W hW)
      dsimp only at hmy hhs
      clear hgk
      generalize mmay ((z1, z2), zq, zb, zc) = D1 at *
      generalize chas B C (z1, z2) = D2 at *
      cases D1 with
      | false =>
        have HE := hid (hNo.out (by rw [hbat.out]; rfl))
        have hS : Hid (∀ W, Pure Wd W → (W.cell? ⟨wr.heap.size, 0, none⟩ = some (.int .i64 z1) ∧ W.cell? ⟨wr.heap.size, 1, none⟩ = some (.int .i64 z2) ∧ W.cell? ⟨wr.heap.size, 2, none⟩ = some (.string (bs zq)) ∧ W.cell? ⟨wr.heap.size, 3, none⟩ = some (.string (bs zb)) ∧ W.cell? ⟨wr.heap.size, 4, none⟩ = some (.int .i64 zc) ∧ W.cell? ⟨w.heap.size, 0, none⟩ = some (.slice (some ⟨b, off, none⟩) M.length c0) ∧ W.cell? ⟨w.heap.size, 1, none⟩ = some v1 ∧ W.cell? ⟨w.heap.size, 2, none⟩ = some v2 ∧ Pure Wd W)) := fun W hW => by
          have hwb := Pure.then_ hpd hW
          have ed := (hW.block _ (lt_of_block hbd)).trans hbd
          obtain ⟨g0, g1, g2⟩ := hC.out W (hp.then_ hwb)
          exact ⟨cell_of_block ed 0, cell_of_block ed 1, cell_of_block ed 2, cell_of_block ed 3, cell_of_block ed 4, g0, g1, g2, hW⟩
        have hst := hid (hS.out Wd.drew (Below.refl _ _).drew)
        have hS2 : Hid (∀ W : World, (W.cell? ⟨wr.heap.size, 0, none⟩ = some (.int .i64 z1) ∧ W.cell? ⟨wr.heap.size, 1, none⟩ = some (.int .i64 z2) ∧ W.cell? ⟨wr.heap.size, 2, none⟩ = some (.string (bs zq)) ∧ W.cell? ⟨wr.heap.size, 3, none⟩ = some (.string (bs zb)) ∧ W.cell? ⟨wr.heap.size, 4, none⟩ = some (.int .i64 zc) ∧ W.cell? ⟨w.heap.size, 0, none⟩ = some (.slice (some ⟨b, off, none⟩) M.length c0) ∧ W.cell? ⟨w.heap.size, 1, none⟩ = some v1 ∧ W.cell? ⟨w.heap.size, 2, none⟩ = some v2 ∧ Pure Wd W) → Pure Wd W) := fun W h => h.2.2.2.2.2.2.2.2
        have Hpd := hid hpd
        have Hwd := hid (hp.then_ hpd)
        clear hp hb hbd hpd
        go_wp2_with fail
        rw [← hWd]
        clear hWd x0 x1 x2 x3 x4
        refine wp_region_held_drew (S := (fun W => W.cell? ⟨wr.heap.size, 0, none⟩ = some (.int .i64 z1) ∧ W.cell? ⟨wr.heap.size, 1, none⟩ = some (.int .i64 z2) ∧ W.cell? ⟨wr.heap.size, 2, none⟩ = some (.string (bs zq)) ∧ W.cell? ⟨wr.heap.size, 3, none⟩ = some (.string (bs zb)) ∧ W.cell? ⟨wr.heap.size, 4, none⟩ = some (.int .i64 zc) ∧ W.cell? ⟨w.heap.size, 0, none⟩ = some (.slice (some ⟨b, off, none⟩) M.length c0) ∧ W.cell? ⟨w.heap.size, 1, none⟩ = some v1 ∧ W.cell? ⟨w.heap.size, 2, none⟩ = some v2 ∧ Pure Wd W)) (by kernel_rfl) ?_ (fun hHeld => ?_)
        · first | assumption | with_reducible exact hst.out | with_reducible exact hS.out _ (Pure.then_ (hS2.out _ (by assumption)) (by assumption))
        refine wpAnyH_take (i := 0) (v := ?_) rfl (by kernel_rfl) (by kernel_rfl) (by kernel_rfl) (fun _ _ _ h => h) (Or.inl ⟨by rfl, ?_⟩) (by assumption) ?_
        rotate_left
        · intro w hSw; (try dsimp only at hSw); (try simp only [List.getElem_toArray, List.getElem_cons_zero]); go_simp; try with_reducible rfl
        try simp only [Act.put, List.setIfInBounds_toArray, List.set_cons_zero, List.set_cons_succ, List.getElem_toArray, List.getElem_cons_zero]
        refine wpAnyH_ready (rs := [1]) (by kernel_rfl) (by simp) ?_
        refine AllReadyH.cons rfl (fun K hK => ?_) AllReadyH.nil
        (try simp only [List.getElem_toArray, List.getElem_cons_succ, List.getElem_cons_zero])
        go_simp
        go_at_call 57; (with_reducible refine (hmy.out _).mono ?_); rintro e w7 ⟨rfl, hp7⟩; go_wp2_with fail
        refine hK.out _ _ ?_ (fun hHeld => ?_)
        · first | assumption | with_reducible exact hst.out | with_reducible exact hS.out _ (Pure.then_ (hS2.out _ (by assumption)) (by assumption))
        clear hK K
        try simp only [Act.put, List.setIfInBounds_toArray, List.set_cons_zero, List.set_cons_succ, List.getElem_toArray, List.getElem_cons_succ, List.getElem_cons_zero]
        refine wpAnyH_take (i := 2) (v := ?_) rfl (by kernel_rfl) (by kernel_rfl) (by kernel_rfl) (fun _ _ _ h => h) (Or.inl ⟨by rfl, ?_⟩) (by assumption) ?_
        rotate_left
        · intro w hSw; (try dsimp only at hSw); (try simp only [List.getElem_toArray, List.getElem_cons_succ, List.getElem_cons_zero]); go_simp; try with_reducible rfl
        try simp only [Act.put, List.setIfInBounds_toArray, List.set_cons_zero, List.set_cons_succ, List.getElem_toArray, List.getElem_cons_succ, List.getElem_cons_zero]
        refine wpAnyH_take (i := 3) (v := ?_) rfl (by kernel_rfl) (by kernel_rfl) (by kernel_rfl) (fun _ _ _ h => h) (Or.inl ⟨by rfl, ?_⟩) (by assumption) ?_
        rotate_left
        · intro w hSw; (try dsimp only at hSw); (try simp only [List.getElem_toArray, List.getElem_cons_succ, List.getElem_cons_zero]); go_simp; try with_reducible rfl
        try simp only [Act.put, List.setIfInBounds_toArray, List.set_cons_zero, List.set_cons_succ, List.getElem_toArray, List.getElem_cons_succ, List.getElem_cons_zero]
        refine wpAnyH_take (i := 4) (v := undef) rfl (by kernel_rfl) (by kernel_rfl) (by kernel_rfl) (fun _ _ _ h => h) (Or.inr ⟨by rfl, rfl⟩) (by assumption) ?_
        try simp only [Act.put, List.setIfInBounds_toArray, List.set_cons_zero, List.set_cons_succ, List.getElem_toArray, List.getElem_cons_succ, List.getElem_cons_zero]
        refine wpAnyH_take (i := 5) (v := undef) rfl (by kernel_rfl) (by kernel_rfl) (by kernel_rfl) (fun _ _ _ h => h) (Or.inr ⟨by rfl, rfl⟩) (by assumption) ?_
        try simp only [Act.put, List.setIfInBounds_toArray, List.set_cons_zero, List.set_cons_succ, List.getElem_toArray, List.getElem_cons_succ, List.getElem_cons_zero]
        refine wpAnyH_take (i := 6) (v := undef) rfl (by kernel_rfl) (by kernel_rfl) (by kernel_rfl) (fun _ _ _ h => h) (Or.inr ⟨by rfl, rfl⟩) (by assumption) ?_
        try simp only [Act.put, List.setIfInBounds_toArray, List.set_cons_zero, List.set_cons_succ, List.getElem_toArray, List.getElem_cons_succ, List.getElem_cons_zero]
        refine wpAnyH_take (i := 7) (v := undef) rfl (by kernel_rfl) (by kernel_rfl) (by kernel_rfl) (fun _ _ _ h => h) (Or.inr ⟨by rfl, rfl⟩) (by assumption) ?_
        try simp only [Act.put, List.setIfInBounds_toArray, List.set_cons_zero, List.set_cons_succ, List.getElem_toArray, List.getElem_cons_succ, List.getElem_cons_zero]
        refine wpAnyH_take (i := 8) (v := undef) rfl (by kernel_rfl) (by kernel_rfl) (by kernel_rfl) (fun _ _ _ h => h) (Or.inr ⟨by rfl, rfl⟩) (by assumption) ?_
        try simp only [Act.put, List.setIfInBounds_toArray, List.set_cons_zero, List.set_cons_succ, List.getElem_toArray, List.getElem_cons_succ, List.getElem_cons_zero]
        refine wpAnyH_take (i := 9) (v := undef) rfl (by kernel_rfl) (by kernel_rfl) (by kernel_rfl) (fun _ _ _ h => h) (Or.inr ⟨by rfl, rfl⟩) (by assumption) ?_
        try simp only [Act.put, List.setIfInBounds_toArray, List.set_cons_zero, List.set_cons_succ, List.getElem_toArray, List.getElem_cons_succ, List.getElem_cons_zero]
        refine wpAnyH_take (i := 10) (v := ?_) rfl (by kernel_rfl) (by kernel_rfl) (by kernel_rfl) (fun _ _ _ h => h) (Or.inl ⟨by rfl, ?_⟩) (by assumption) ?_
        rotate_left
        · intro w hSw; (try dsimp only at hSw); (try simp only [List.getElem_toArray, List.getElem_cons_succ, List.getElem_cons_zero]); go_simp; try with_reducible rfl
        try simp only [Act.put, List.setIfInBounds_toArray, List.set_cons_zero, List.set_cons_succ, List.getElem_toArray, List.getElem_cons_succ, List.getElem_cons_zero]
        refine wpAnyH_take (i := 11) (v := ?_) rfl (by kernel_rfl) (by kernel_rfl) (by kernel_rfl) (fun _ _ _ h => h) (Or.inl ⟨by rfl, ?_⟩) (by assumption) ?_
        rotate_left
        · intro w hSw; (try dsimp only at hSw); (try simp only [List.getElem_toArray, List.getElem_cons_succ, List.getElem_cons_zero]); go_simp; try with_reducible rfl
        try simp only [Act.put, List.setIfInBounds_toArray, List.set_cons_zero, List.set_cons_succ, List.getElem_toArray, List.getElem_cons_succ, List.getElem_cons_zero]
        refine wpAnyH_take (i := 12) (v := undef) rfl (by kernel_rfl) (by kernel_rfl) (by kernel_rfl) (fun _ _ _ h => h) (Or.inr ⟨by rfl, rfl⟩) (by assumption) ?_
        try simp only [Act.put, List.setIfInBounds_toArray, List.set_cons_zero, List.set_cons_succ, List.getElem_toArray, List.getElem_cons_succ, List.getElem_cons_zero]
        refine wpAnyH_take (i := 13) (v := undef) rfl (by kernel_rfl) (by kernel_rfl) (by kernel_rfl) (fun _ _ _ h => h) (Or.inr ⟨by rfl, rfl⟩) (by assumption) ?_
        try simp only [Act.put, List.setIfInBounds_toArray, List.set_cons_zero, List.set_cons_succ, List.getElem_toArray, List.getElem_cons_succ, List.getElem_cons_zero]
        refine wpAnyH_take (i := 14) (v := undef) rfl (by kernel_rfl) (by kernel_rfl) (by kernel_rfl) (fun _ _ _ h => h) (Or.inr ⟨by rfl, rfl⟩) (by assumption) ?_
        try simp only [Act.put, List.setIfInBounds_toArray, List.set_cons_zero, List.set_cons_succ, List.getElem_toArray, List.getElem_cons_succ, List.getElem_cons_zero]
        refine wpAnyH_take (i := 15) (v := undef) rfl (by kernel_rfl) (by kernel_rfl) (by kernel_rfl) (fun _ _ _ h => h) (Or.inr ⟨by rfl, rfl⟩) (by assumption) ?_
        try simp only [Act.put, List.setIfInBounds_toArray, List.set_cons_zero, List.set_cons_succ, List.getElem_toArray, List.getElem_cons_succ, List.getElem_cons_zero]
        refine wpAnyH_take (i := 16) (v := undef) rfl (by kernel_rfl) (by kernel_rfl) (by kernel_rfl) (fun _ _ _ h => h) (Or.inr ⟨by rfl, rfl⟩) (by assumption) ?_
        try simp only [Act.put, List.setIfInBounds_toArray, List.set_cons_zero, List.set_cons_succ, List.getElem_toArray, List.getElem_cons_succ, List.getElem_cons_zero]
        refine wpAnyH_take (i := 17) (v := undef) rfl (by kernel_rfl) (by kernel_rfl) (by kernel_rfl) (fun _ _ _ h => h) (Or.inr ⟨by rfl, rfl⟩) (by assumption) ?_
        try simp only [Act.put, List.setIfInBounds_toArray, List.set_cons_zero, List.set_cons_succ, List.getElem_toArray, List.getElem_cons_succ, List.getElem_cons_zero]
        refine wpAnyH_take (i := 18) (v := undef) rfl (by kernel_rfl) (by kernel_rfl) (by kernel_rfl) (fun _ _ _ h => h) (Or.inr ⟨by rfl, rfl⟩) (by assumption) ?_
        try simp only [Act.put, List.setIfInBounds_toArray, List.set_cons_zero, List.set_cons_succ, List.getElem_toArray, List.getElem_cons_succ, List.getElem_cons_zero]
        refine wpAnyH_take (i := 19) (v := undef) rfl (by kernel_rfl) (by kernel_rfl) (by kernel_rfl) (fun _ _ _ h => h) (Or.inr ⟨by rfl, rfl⟩) (by assumption) ?_
        try simp only [Act.put, List.setIfInBounds_toArray, List.set_cons_zero, List.set_cons_succ, List.getElem_toArray, List.getElem_cons_succ, List.getElem_cons_zero]
        refine wpAnyH_take (i := 20) (v := undef) rfl (by kernel_rfl) (by kernel_rfl) (by kernel_rfl) (fun _ _ _ h => h) (Or.inr ⟨by rfl, rfl⟩) (by assumption) ?_
        try simp only [Act.put, List.setIfInBounds_toArray, List.set_cons_zero, List.set_cons_succ, List.getElem_toArray, List.getElem_cons_succ, List.getElem_cons_zero]
        refine wpAnyH_take (i := 21) (v := undef) rfl (by kernel_rfl) (by kernel_rfl) (by kernel_rfl) (fun _ _ _ h => h) (Or.inr ⟨by rfl, rfl⟩) (by assumption) ?_
        try simp only [Act.put, List.setIfInBounds_toArray, List.set_cons_zero, List.set_cons_succ, List.getElem_toArray, List.getElem_cons_succ, List.getElem_cons_zero]
        refine wpAnyH_take (i := 22) (v := undef) rfl (by kernel_rfl) (by kernel_rfl) (by kernel_rfl) (fun _ _ _ h => h) (Or.inr ⟨by rfl, rfl⟩) (by assumption) ?_
        try simp only [Act.put, List.setIfInBounds_toArray, List.set_cons_zero, List.set_cons_succ, List.getElem_toArray, List.getElem_cons_succ, List.getElem_cons_zero]
        refine wpAnyH_take (i := 23) (v := undef) rfl (by kernel_rfl) (by kernel_rfl) (by kernel_rfl) (fun _ _ _ h => h) (Or.inr ⟨by rfl, rfl⟩) (by assumption) ?_
        try simp only [Act.put, List.setIfInBounds_toArray, List.set_cons_zero, List.set_cons_succ, List.getElem_toArray, List.getElem_cons_succ, List.getElem_cons_zero]
        refine wpAnyH_take (i := 24) (v := undef) rfl (by kernel_rfl) (by kernel_rfl) (by kernel_rfl) (fun _ _ _ h => h) (Or.inr ⟨by rfl, rfl⟩) (by assumption) ?_
        try simp only [Act.put, List.setIfInBounds_toArray, List.set_cons_zero, List.set_cons_succ, List.getElem_toArray, List.getElem_cons_succ, List.getElem_cons_zero]
        refine wpAnyH_take (i := 25) (v := undef) rfl (by kernel_rfl) (by kernel_rfl) (by kernel_rfl) (fun _ _ _ h => h) (Or.inr ⟨by rfl, rfl⟩) (by assumption) ?_
        try simp only [Act.put, List.setIfInBounds_toArray, List.set_cons_zero, List.set_cons_succ, List.getElem_toArray, List.getElem_cons_succ, List.getElem_cons_zero]
        refine wpAnyH_take (i := 26) (v := undef) rfl (by kernel_rfl) (by kernel_rfl) (by kernel_rfl) (fun _ _ _ h => h) (Or.inr ⟨by rfl, rfl⟩) (by assumption) ?_
        try simp only [Act.put, List.setIfInBounds_toArray, List.set_cons_zero, List.set_cons_succ, List.getElem_toArray, List.getElem_cons_succ, List.getElem_cons_zero]
        refine wpAnyH_take (i := 27) (v := ?_) rfl (by kernel_rfl) (by kernel_rfl) (by kernel_rfl) (fun _ _ _ h => h) (Or.inl ⟨by rfl, ?_⟩) (by assumption) ?_
        rotate_left
        · intro w hSw; (try dsimp only at hSw); (try simp only [List.getElem_toArray, List.getElem_cons_succ, List.getElem_cons_zero]); go_simp; try with_reducible rfl
        try simp only [Act.put, List.setIfInBounds_toArray, List.set_cons_zero, List.set_cons_succ, List.getElem_toArray, List.getElem_cons_succ, List.getElem_cons_zero]
        refine wpAnyH_done (by kernel_rfl) ?_ _
        have hx := hid (Hp.out.then_ (Pure.then_ Hpd.out (hS2.out w7 (by assumption))))
        clear hst hS hS2 hp7
        go_wp2
        go_ret
        exact ⟨by rw [HE.out]; rfl, Hpz.out.then_ hx.out⟩
      | true =>
      cases D2 with
      | false =>
        have HE := hid (hNo.out (by rw [hbat.out]; rfl))
        have hS : Hid (∀ W, Pure Wd W → (W.cell? ⟨wr.heap.size, 0, none⟩ = some (.int .i64 z1) ∧ W.cell? ⟨wr.heap.size, 1, none⟩ = some (.int .i64 z2) ∧ W.cell? ⟨wr.heap.size, 2, none⟩ = some (.string (bs zq)) ∧ W.cell? ⟨wr.heap.size, 3, none⟩ = some (.string (bs zb)) ∧ W.cell? ⟨wr.heap.size, 4, none⟩ = some (.int .i64 zc) ∧ W.cell? ⟨w.heap.size, 0, none⟩ = some (.slice (some ⟨b, off, none⟩) M.length c0) ∧ W.cell? ⟨w.heap.size, 1, none⟩ = some v1 ∧ W.cell? ⟨w.heap.size, 2, none⟩ = some v2 ∧ Pure Wd W)) := fun W hW => by
          have hwb := Pure.then_ hpd hW
          have ed := (hW.block _ (lt_of_block hbd)).trans hbd
          obtain ⟨g0, g1, g2⟩ := hC.out W (hp.then_ hwb)
          exact ⟨cell_of_block ed 0, cell_of_block ed 1, cell_of_block ed 2, cell_of_block ed 3, cell_of_block ed 4, g0, g1, g2, hW⟩
        have hst := hid (hS.out Wd.drew (Below.refl _ _).drew)
        have hS2 : Hid (∀ W : World, (W.cell? ⟨wr.heap.size, 0, none⟩ = some (.int .i64 z1) ∧ W.cell? ⟨wr.heap.size, 1, none⟩ = some (.int .i64 z2) ∧ W.cell? ⟨wr.heap.size, 2, none⟩ = some (.string (bs zq)) ∧ W.cell? ⟨wr.heap.size, 3, none⟩ = some (.string (bs zb)) ∧ W.cell? ⟨wr.heap.size, 4, none⟩ = some (.int .i64 zc) ∧ W.cell? ⟨w.heap.size, 0, none⟩ = some (.slice (some ⟨b, off, none⟩) M.length c0) ∧ W.cell? ⟨w.heap.size, 1, none⟩ = some v1 ∧ W.cell? ⟨w.heap.size, 2, none⟩ = some v2 ∧ Pure Wd W) → Pure Wd W) := fun W h => h.2.2.2.2.2.2.2.2
        have Hpd := hid hpd
        have Hwd := hid (hp.then_ hpd)
        clear hp hb hbd hpd
        go_wp2_with fail
        rw [← hWd]
        clear hWd x0 x1 x2 x3 x4
        refine wp_region_held_drew (S := (fun W => W.cell? ⟨wr.heap.size, 0, none⟩ = some (.int .i64 z1) ∧ W.cell? ⟨wr.heap.size, 1, none⟩ = some (.int .i64 z2) ∧ W.cell? ⟨wr.heap.size, 2, none⟩ = some (.string (bs zq)) ∧ W.cell? ⟨wr.heap.size, 3, none⟩ = some (.string (bs zb)) ∧ W.cell? ⟨wr.heap.size, 4, none⟩ = some (.int .i64 zc) ∧ W.cell? ⟨w.heap.size, 0, none⟩ = some (.slice (some ⟨b, off, none⟩) M.length c0) ∧ W.cell? ⟨w.heap.size, 1, none⟩ = some v1 ∧ W.cell? ⟨w.heap.size, 2, none⟩ = some v2 ∧ Pure Wd W)) (by kernel_rfl) ?_ (fun hHeld => ?_)
        · first | assumption | with_reducible exact hst.out | with_reducible exact hS.out _ (Pure.then_ (hS2.out _ (by assumption)) (by assumption))
        refine wpAnyH_take (i := 0) (v := ?_) rfl (by kernel_rfl) (by kernel_rfl) (by kernel_rfl) (fun _ _ _ h => h) (Or.inl ⟨by rfl, ?_⟩) (by assumption) ?_
        rotate_left
        · intro w hSw; (try dsimp only at hSw); (try simp only [List.getElem_toArray, List.getElem_cons_zero]); go_simp; try with_reducible rfl
        try simp only [Act.put, List.setIfInBounds_toArray, List.set_cons_zero, List.set_cons_succ, List.getElem_toArray, List.getElem_cons_zero]
        refine wpAnyH_ready (rs := [1]) (by kernel_rfl) (by simp) ?_
        refine AllReadyH.cons rfl (fun K hK => ?_) AllReadyH.nil
        (try simp only [List.getElem_toArray, List.getElem_cons_succ, List.getElem_cons_zero])
        go_simp
        go_at_call 57; (with_reducible refine (hmy.out _).mono ?_); rintro e w7 ⟨rfl, hp7⟩; go_wp2_with fail
        refine hK.out _ _ ?_ (fun hHeld => ?_)
        · first | assumption | with_reducible exact hst.out | with_reducible exact hS.out _ (Pure.then_ (hS2.out _ (by assumption)) (by assumption))
        clear hK K
        try simp only [Act.put, List.setIfInBounds_toArray, List.set_cons_zero, List.set_cons_succ, List.getElem_toArray, List.getElem_cons_succ, List.getElem_cons_zero]
        refine wpAnyH_take (i := 2) (v := ?_) rfl (by kernel_rfl) (by kernel_rfl) (by kernel_rfl) (fun _ _ _ h => h) (Or.inl ⟨by rfl, ?_⟩) (by assumption) ?_
        rotate_left
        · intro w hSw; (try dsimp only at hSw); (try simp only [List.getElem_toArray, List.getElem_cons_succ, List.getElem_cons_zero]); go_simp; try with_reducible rfl
        try simp only [Act.put, List.setIfInBounds_toArray, List.set_cons_zero, List.set_cons_succ, List.getElem_toArray, List.getElem_cons_succ, List.getElem_cons_zero]
        refine wpAnyH_take (i := 3) (v := ?_) rfl (by kernel_rfl) (by kernel_rfl) (by kernel_rfl) (fun _ _ _ h => h) (Or.inl ⟨by rfl, ?_⟩) (by assumption) ?_
        rotate_left
        · intro w hSw; (try dsimp only at hSw); (try simp only [List.getElem_toArray, List.getElem_cons_succ, List.getElem_cons_zero]); go_simp; try with_reducible rfl
        try simp only [Act.put, List.setIfInBounds_toArray, List.set_cons_zero, List.set_cons_succ, List.getElem_toArray, List.getElem_cons_succ, List.getElem_cons_zero]
        refine wpAnyH_take (i := 4) (v := ?_) rfl (by kernel_rfl) (by kernel_rfl) (by kernel_rfl) (fun _ _ _ h => h) (Or.inl ⟨by rfl, ?_⟩) (by assumption) ?_
        rotate_left
        · intro w hSw; (try dsimp only at hSw); (try simp only [List.getElem_toArray, List.getElem_cons_succ, List.getElem_cons_zero]); go_simp; try with_reducible rfl
        try simp only [Act.put, List.setIfInBounds_toArray, List.set_cons_zero, List.set_cons_succ, List.getElem_toArray, List.getElem_cons_succ, List.getElem_cons_zero]
        refine wpAnyH_take (i := 5) (v := ?_) rfl (by kernel_rfl) (by kernel_rfl) (by kernel_rfl) (fun _ _ _ h => h) (Or.inl ⟨by rfl, ?_⟩) (by assumption) ?_
        rotate_left
        · intro w hSw; (try dsimp only at hSw); (try simp only [List.getElem_toArray, List.getElem_cons_succ, List.getElem_cons_zero]); go_simp; try with_reducible rfl
        try simp only [Act.put, List.setIfInBounds_toArray, List.set_cons_zero, List.set_cons_succ, List.getElem_toArray, List.getElem_cons_succ, List.getElem_cons_zero]
        refine wpAnyH_take (i := 6) (v := ?_) rfl (by kernel_rfl) (by kernel_rfl) (by kernel_rfl) (fun _ _ _ h => h) (Or.inl ⟨by rfl, ?_⟩) (by assumption) ?_
        rotate_left
        · intro w hSw; (try dsimp only at hSw); (try simp only [List.getElem_toArray, List.getElem_cons_succ, List.getElem_cons_zero]); go_simp; try with_reducible rfl
        try simp only [Act.put, List.setIfInBounds_toArray, List.set_cons_zero, List.set_cons_succ, List.getElem_toArray, List.getElem_cons_succ, List.getElem_cons_zero]
        refine wpAnyH_take (i := 7) (v := ?_) rfl (by kernel_rfl) (by kernel_rfl) (by kernel_rfl) (fun _ _ _ h => h) (Or.inl ⟨by rfl, ?_⟩) (by assumption) ?_
        rotate_left
        · intro w hSw; (try dsimp only at hSw); (try simp only [List.getElem_toArray, List.getElem_cons_succ, List.getElem_cons_zero]); go_simp; try with_reducible rfl
        try simp only [Act.put, List.setIfInBounds_toArray, List.set_cons_zero, List.set_cons_succ, List.getElem_toArray, List.getElem_cons_succ, List.getElem_cons_zero]
        refine wpAnyH_ready (rs := [8]) (by kernel_rfl) (by simp) ?_
        refine AllReadyH.cons rfl (fun K hK => ?_) AllReadyH.nil
        (try simp only [List.getElem_toArray, List.getElem_cons_succ, List.getElem_cons_zero])
        go_simp
        go_at_call 46; (with_reducible refine (hhs.out _ (Pure.then_ Hwd.out (hS2.out _ (by assumption)))).mono ?_); rintro e w8 ⟨rfl, hp8⟩; go_wp2_with fail
        refine hK.out _ _ ?_ (fun hHeld => ?_)
        · first | assumption | with_reducible exact hst.out | with_reducible exact hS.out _ (Pure.then_ (hS2.out _ (by assumption)) (by assumption))
        clear hK K
        try simp only [Act.put, List.setIfInBounds_toArray, List.set_cons_zero, List.set_cons_succ, List.getElem_toArray, List.getElem_cons_succ, List.getElem_cons_zero]
        refine wpAnyH_take (i := 9) (v := ?_) rfl (by kernel_rfl) (by kernel_rfl) (by kernel_rfl) (fun _ _ _ h => h) (Or.inl ⟨by rfl, ?_⟩) (by assumption) ?_
        rotate_left
        · intro w hSw; (try dsimp only at hSw); (try simp only [List.getElem_toArray, List.getElem_cons_succ, List.getElem_cons_zero]); go_simp; try with_reducible rfl
        try simp only [Act.put, List.setIfInBounds_toArray, List.set_cons_zero, List.set_cons_succ, List.getElem_toArray, List.getElem_cons_succ, List.getElem_cons_zero]
        refine wpAnyH_take (i := 10) (v := ?_) rfl (by kernel_rfl) (by kernel_rfl) (by kernel_rfl) (fun _ _ _ h => h) (Or.inl ⟨by rfl, ?_⟩) (by assumption) ?_
        rotate_left
        · intro w hSw; (try dsimp only at hSw); (try simp only [List.getElem_toArray, List.getElem_cons_succ, List.getElem_cons_zero]); go_simp; try with_reducible rfl
        try simp only [Act.put, List.setIfInBounds_toArray, List.set_cons_zero, List.set_cons_succ, List.getElem_toArray, List.getElem_cons_succ, List.getElem_cons_zero]
        refine wpAnyH_take (i := 11) (v := ?_) rfl (by kernel_rfl) (by kernel_rfl) (by kernel_rfl) (fun _ _ _ h => h) (Or.inl ⟨by rfl, ?_⟩) (by assumption) ?_
        rotate_left
        · intro w hSw; (try dsimp only at hSw); (try simp only [List.getElem_toArray, List.getElem_cons_succ, List.getElem_cons_zero]); go_simp; try with_reducible rfl
        try simp only [Act.put, List.setIfInBounds_toArray, List.set_cons_zero, List.set_cons_succ, List.getElem_toArray, List.getElem_cons_succ, List.getElem_cons_zero]
        refine wpAnyH_take (i := 12) (v := undef) rfl (by kernel_rfl) (by kernel_rfl) (by kernel_rfl) (fun _ _ _ h => h) (Or.inr ⟨by rfl, rfl⟩) (by assumption) ?_
        try simp only [Act.put, List.setIfInBounds_toArray, List.set_cons_zero, List.set_cons_succ, List.getElem_toArray, List.getElem_cons_succ, List.getElem_cons_zero]
        refine wpAnyH_take (i := 13) (v := undef) rfl (by kernel_rfl) (by kernel_rfl) (by kernel_rfl) (fun _ _ _ h => h) (Or.inr ⟨by rfl, rfl⟩) (by assumption) ?_
        try simp only [Act.put, List.setIfInBounds_toArray, List.set_cons_zero, List.set_cons_succ, List.getElem_toArray, List.getElem_cons_succ, List.getElem_cons_zero]
        refine wpAnyH_take (i := 14) (v := undef) rfl (by kernel_rfl) (by kernel_rfl) (by kernel_rfl) (fun _ _ _ h => h) (Or.inr ⟨by rfl, rfl⟩) (by assumption) ?_
        try simp only [Act.put, List.setIfInBounds_toArray, List.set_cons_zero, List.set_cons_succ, List.getElem_toArray, List.getElem_cons_succ, List.getElem_cons_zero]
        refine wpAnyH_take (i := 15) (v := undef) rfl (by kernel_rfl) (by kernel_rfl) (by kernel_rfl) (fun _ _ _ h => h) (Or.inr ⟨by rfl, rfl⟩) (by assumption) ?_
        try simp only [Act.put, List.setIfInBounds_toArray, List.set_cons_zero, List.set_cons_succ, List.getElem_toArray, List.getElem_cons_succ, List.getElem_cons_zero]
        refine wpAnyH_take (i := 16) (v := undef) rfl (by kernel_rfl) (by kernel_rfl) (by kernel_rfl) (fun _ _ _ h => h) (Or.inr ⟨by rfl, rfl⟩) (by assumption) ?_
        try simp only [Act.put, List.setIfInBounds_toArray, List.set_cons_zero, List.set_cons_succ, List.getElem_toArray, List.getElem_cons_succ, List.getElem_cons_zero]
        refine wpAnyH_take (i := 17) (v := undef) rfl (by kernel_rfl) (by kernel_rfl) (by kernel_rfl) (fun _ _ _ h => h) (Or.inr ⟨by rfl, rfl⟩) (by assumption) ?_
        try simp only [Act.put, List.setIfInBounds_toArray, List.set_cons_zero, List.set_cons_succ, List.getElem_toArray, List.getElem_cons_succ, List.getElem_cons_zero]
        refine wpAnyH_take (i := 18) (v := undef) rfl (by kernel_rfl) (by kernel_rfl) (by kernel_rfl) (fun _ _ _ h => h) (Or.inr ⟨by rfl, rfl⟩) (by assumption) ?_
        try simp only [Act.put, List.setIfInBounds_toArray, List.set_cons_zero, List.set_cons_succ, List.getElem_toArray, List.getElem_cons_succ, List.getElem_cons_zero]
        refine wpAnyH_take (i := 19) (v := undef) rfl (by kernel_rfl) (by kernel_rfl) (by kernel_rfl) (fun _ _ _ h => h) (Or.inr ⟨by rfl, rfl⟩) (by assumption) ?_
        try simp only [Act.put, List.setIfInBounds_toArray, List.set_cons_zero, List.set_cons_succ, List.getElem_toArray, List.getElem_cons_succ, List.getElem_cons_zero]
        refine wpAnyH_take (i := 20) (v := undef) rfl (by kernel_rfl) (by kernel_rfl) (by kernel_rfl) (fun _ _ _ h => h) (Or.inr ⟨by rfl, rfl⟩) (by assumption) ?_
        try simp only [Act.put, List.setIfInBounds_toArray, List.set_cons_zero, List.set_cons_succ, List.getElem_toArray, List.getElem_cons_succ, List.getElem_cons_zero]
        refine wpAnyH_take (i := 21) (v := undef) rfl (by kernel_rfl) (by kernel_rfl) (by kernel_rfl) (fun _ _ _ h => h) (Or.inr ⟨by rfl, rfl⟩) (by assumption) ?_
        try simp only [Act.put, List.setIfInBounds_toArray, List.set_cons_zero, List.set_cons_succ, List.getElem_toArray, List.getElem_cons_succ, List.getElem_cons_zero]
        refine wpAnyH_take (i := 22) (v := undef) rfl (by kernel_rfl) (by kernel_rfl) (by kernel_rfl) (fun _ _ _ h => h) (Or.inr ⟨by rfl, rfl⟩) (by assumption) ?_
        try simp only [Act.put, List.setIfInBounds_toArray, List.set_cons_zero, List.set_cons_succ, List.getElem_toArray, List.getElem_cons_succ, List.getElem_cons_zero]
        refine wpAnyH_take (i := 23) (v := undef) rfl (by kernel_rfl) (by kernel_rfl) (by kernel_rfl) (fun _ _ _ h => h) (Or.inr ⟨by rfl, rfl⟩) (by assumption) ?_
        try simp only [Act.put, List.setIfInBounds_toArray, List.set_cons_zero, List.set_cons_succ, List.getElem_toArray, List.getElem_cons_succ, List.getElem_cons_zero]
        refine wpAnyH_take (i := 24) (v := undef) rfl (by kernel_rfl) (by kernel_rfl) (by kernel_rfl) (fun _ _ _ h => h) (Or.inr ⟨by rfl, rfl⟩) (by assumption) ?_
        try simp only [Act.put, List.setIfInBounds_toArray, List.set_cons_zero, List.set_cons_succ, List.getElem_toArray, List.getElem_cons_succ, List.getElem_cons_zero]
        refine wpAnyH_take (i := 25) (v := undef) rfl (by kernel_rfl) (by kernel_rfl) (by kernel_rfl) (fun _ _ _ h => h) (Or.inr ⟨by rfl, rfl⟩) (by assumption) ?_
        try simp only [Act.put, List.setIfInBounds_toArray, List.set_cons_zero, List.set_cons_succ, List.getElem_toArray, List.getElem_cons_succ, List.getElem_cons_zero]
        refine wpAnyH_take (i := 26) (v := undef) rfl (by kernel_rfl) (by kernel_rfl) (by kernel_rfl) (fun _ _ _ h => h) (Or.inr ⟨by rfl, rfl⟩) (by assumption) ?_
        try simp only [Act.put, List.setIfInBounds_toArray, List.set_cons_zero, List.set_cons_succ, List.getElem_toArray, List.getElem_cons_succ, List.getElem_cons_zero]
        refine wpAnyH_take (i := 27) (v := ?_) rfl (by kernel_rfl) (by kernel_rfl) (by kernel_rfl) (fun _ _ _ h => h) (Or.inl ⟨by rfl, ?_⟩) (by assumption) ?_
        rotate_left
        · intro w hSw; (try dsimp only at hSw); (try simp only [List.getElem_toArray, List.getElem_cons_succ, List.getElem_cons_zero]); go_simp; try with_reducible rfl
        try simp only [Act.put, List.setIfInBounds_toArray, List.set_cons_zero, List.set_cons_succ, List.getElem_toArray, List.getElem_cons_succ, List.getElem_cons_zero]
        refine wpAnyH_done (by kernel_rfl) ?_ _
        have hx := hid (Hp.out.then_ (Pure.then_ Hpd.out (hS2.out w8 (by assumption))))
        clear hst hS hS2 hp7 hp8
        go_wp2
        go_ret
        exact ⟨by rw [HE.out]; rfl, Hpz.out.then_ hx.out⟩
      | true =>
      by_cases h0 : 0 < k
      · have h0' : (0 : Int) < (k : Int) := by omega
        have hsub : IntKind.i64.wrap ((k : Int) - 1) = ((k - 1 : Nat) : Int) := by rw [IntWalk.i64_in _ (by omega)]; omega
        have hsub2 : (k : Int) - 1 = ((k - 1 : Nat) : Int) := by omega
        have hlt2 : ((k - 1 : Nat) : Int) < (M.length : Int) := by omega
        have hn : (0 : Int) ≤ ((k - 1 : Nat) : Int) := by omega
        have hwm : IntKind.i64.wrap (((k - 1 : Nat) : Nat) : Int) = ((k - 1 : Nat) : Int) := IntWalk.i64_in _ (by omega)
        obtain ⟨b', off', e', hb', y0, y1, -, -, -⟩ := Msgs.get Hrow.out (show k - 1 < M.length by omega)
        cases e'
        generalize M.getD (k - 1) m0 = y at *
        obtain ⟨⟨q1, q2⟩, yq, yb, yc⟩ := y
        dsimp only at y0 y1 hbat
        have hls := hid (fun W => hless.out (q1, q2) (z1, z2) W)
        dsimp only at hls
        have hbat2 := hid (show V = dlt (q1, q2) (z1, z2) from by rw [hbat.out, decide_eq_false (show ¬ k = 0 by omega)]; rfl)
        generalize dlt (q1, q2) (z1, z2) = D3 at *
        cases D3 with
        | false =>
          have HE := hid (hNo.out hbat2.out)
          have hS : Hid (∀ W, Pure Wd W → (W.cell? ⟨wr.heap.size, 0, none⟩ = some (.int .i64 z1) ∧ W.cell? ⟨wr.heap.size, 1, none⟩ = some (.int .i64 z2) ∧ W.cell? ⟨wr.heap.size, 2, none⟩ = some (.string (bs zq)) ∧ W.cell? ⟨wr.heap.size, 3, none⟩ = some (.string (bs zb)) ∧ W.cell? ⟨wr.heap.size, 4, none⟩ = some (.int .i64 zc) ∧ W.cell? ⟨w.heap.size, 0, none⟩ = some (.slice (some ⟨b, off, none⟩) M.length c0) ∧ W.cell? ⟨w.heap.size, 1, none⟩ = some v1 ∧ W.cell? ⟨w.heap.size, 2, none⟩ = some v2 ∧ W.cell? ⟨b, off + (k - 1) * 5, none⟩ = some (.int .i64 q1) ∧ W.cell? ⟨b, off + (k - 1) * 5 + 1, none⟩ = some (.int .i64 q2) ∧ Pure Wd W)) := fun W hW => by
            have hwb := Pure.then_ hpd hW
            have ed := (hW.block _ (lt_of_block hbd)).trans hbd
            obtain ⟨g0, g1, g2⟩ := hC.out W (hp.then_ hwb)
            exact ⟨cell_of_block ed 0, cell_of_block ed 1, cell_of_block ed 2, cell_of_block ed 3, cell_of_block ed 4, g0, g1, g2, (hwb.cell hb).trans y0, (hwb.cell hb).trans y1, hW⟩
          have hst := hid (hS.out Wd.drew (Below.refl _ _).drew)
          have hS2 : Hid (∀ W : World, (W.cell? ⟨wr.heap.size, 0, none⟩ = some (.int .i64 z1) ∧ W.cell? ⟨wr.heap.size, 1, none⟩ = some (.int .i64 z2) ∧ W.cell? ⟨wr.heap.size, 2, none⟩ = some (.string (bs zq)) ∧ W.cell? ⟨wr.heap.size, 3, none⟩ = some (.string (bs zb)) ∧ W.cell? ⟨wr.heap.size, 4, none⟩ = some (.int .i64 zc) ∧ W.cell? ⟨w.heap.size, 0, none⟩ = some (.slice (some ⟨b, off, none⟩) M.length c0) ∧ W.cell? ⟨w.heap.size, 1, none⟩ = some v1 ∧ W.cell? ⟨w.heap.size, 2, none⟩ = some v2 ∧ W.cell? ⟨b, off + (k - 1) * 5, none⟩ = some (.int .i64 q1) ∧ W.cell? ⟨b, off + (k - 1) * 5 + 1, none⟩ = some (.int .i64 q2) ∧ Pure Wd W) → Pure Wd W) := fun W h => h.2.2.2.2.2.2.2.2.2.2
          have Hpd := hid hpd
          have Hwd := hid (hp.then_ hpd)
          clear hp hb hbd hpd y0 y1
          generalize hj : k - 1 = j at *
          go_wp2_with fail
          rw [← hWd]
          clear hWd x0 x1 x2 x3 x4
          refine wp_region_held_drew (S := (fun W => W.cell? ⟨wr.heap.size, 0, none⟩ = some (.int .i64 z1) ∧ W.cell? ⟨wr.heap.size, 1, none⟩ = some (.int .i64 z2) ∧ W.cell? ⟨wr.heap.size, 2, none⟩ = some (.string (bs zq)) ∧ W.cell? ⟨wr.heap.size, 3, none⟩ = some (.string (bs zb)) ∧ W.cell? ⟨wr.heap.size, 4, none⟩ = some (.int .i64 zc) ∧ W.cell? ⟨w.heap.size, 0, none⟩ = some (.slice (some ⟨b, off, none⟩) M.length c0) ∧ W.cell? ⟨w.heap.size, 1, none⟩ = some v1 ∧ W.cell? ⟨w.heap.size, 2, none⟩ = some v2 ∧ W.cell? ⟨b, off + j * 5, none⟩ = some (.int .i64 q1) ∧ W.cell? ⟨b, off + j * 5 + 1, none⟩ = some (.int .i64 q2) ∧ Pure Wd W)) (by kernel_rfl) ?_ (fun hHeld => ?_)
          · first | assumption | with_reducible exact hst.out | with_reducible exact hS.out _ (Pure.then_ (hS2.out _ (by assumption)) (by assumption))
          refine wpAnyH_take (i := 0) (v := ?_) rfl (by kernel_rfl) (by kernel_rfl) (by kernel_rfl) (fun _ _ _ h => h) (Or.inl ⟨by rfl, ?_⟩) (by assumption) ?_
          rotate_left
          · intro w hSw; (try dsimp only at hSw); (try simp only [List.getElem_toArray, List.getElem_cons_zero]); go_simp; try with_reducible rfl
          try simp only [Act.put, List.setIfInBounds_toArray, List.set_cons_zero, List.set_cons_succ, List.getElem_toArray, List.getElem_cons_zero]
          refine wpAnyH_ready (rs := [1]) (by kernel_rfl) (by simp) ?_
          refine AllReadyH.cons rfl (fun K hK => ?_) AllReadyH.nil
          (try simp only [List.getElem_toArray, List.getElem_cons_succ, List.getElem_cons_zero])
          go_simp
          go_at_call 57; (with_reducible refine (hmy.out _).mono ?_); rintro e w7 ⟨rfl, hp7⟩; go_wp2_with fail
          refine hK.out _ _ ?_ (fun hHeld => ?_)
          · first | assumption | with_reducible exact hst.out | with_reducible exact hS.out _ (Pure.then_ (hS2.out _ (by assumption)) (by assumption))
          clear hK K
          try simp only [Act.put, List.setIfInBounds_toArray, List.set_cons_zero, List.set_cons_succ, List.getElem_toArray, List.getElem_cons_succ, List.getElem_cons_zero]
          refine wpAnyH_take (i := 2) (v := ?_) rfl (by kernel_rfl) (by kernel_rfl) (by kernel_rfl) (fun _ _ _ h => h) (Or.inl ⟨by rfl, ?_⟩) (by assumption) ?_
          rotate_left
          · intro w hSw; (try dsimp only at hSw); (try simp only [List.getElem_toArray, List.getElem_cons_succ, List.getElem_cons_zero]); go_simp; try with_reducible rfl
          try simp only [Act.put, List.setIfInBounds_toArray, List.set_cons_zero, List.set_cons_succ, List.getElem_toArray, List.getElem_cons_succ, List.getElem_cons_zero]
          refine wpAnyH_take (i := 3) (v := ?_) rfl (by kernel_rfl) (by kernel_rfl) (by kernel_rfl) (fun _ _ _ h => h) (Or.inl ⟨by rfl, ?_⟩) (by assumption) ?_
          rotate_left
          · intro w hSw; (try dsimp only at hSw); (try simp only [List.getElem_toArray, List.getElem_cons_succ, List.getElem_cons_zero]); go_simp; try with_reducible rfl
          try simp only [Act.put, List.setIfInBounds_toArray, List.set_cons_zero, List.set_cons_succ, List.getElem_toArray, List.getElem_cons_succ, List.getElem_cons_zero]
          refine wpAnyH_take (i := 4) (v := ?_) rfl (by kernel_rfl) (by kernel_rfl) (by kernel_rfl) (fun _ _ _ h => h) (Or.inl ⟨by rfl, ?_⟩) (by assumption) ?_
          rotate_left
          · intro w hSw; (try dsimp only at hSw); (try simp only [List.getElem_toArray, List.getElem_cons_succ, List.getElem_cons_zero]); go_simp; try with_reducible rfl
          try simp only [Act.put, List.setIfInBounds_toArray, List.set_cons_zero, List.set_cons_succ, List.getElem_toArray, List.getElem_cons_succ, List.getElem_cons_zero]
          refine wpAnyH_take (i := 5) (v := ?_) rfl (by kernel_rfl) (by kernel_rfl) (by kernel_rfl) (fun _ _ _ h => h) (Or.inl ⟨by rfl, ?_⟩) (by assumption) ?_
          rotate_left
          · intro w hSw; (try dsimp only at hSw); (try simp only [List.getElem_toArray, List.getElem_cons_succ, List.getElem_cons_zero]); go_simp; try with_reducible rfl
          try simp only [Act.put, List.setIfInBounds_toArray, List.set_cons_zero, List.set_cons_succ, List.getElem_toArray, List.getElem_cons_succ, List.getElem_cons_zero]
          refine wpAnyH_take (i := 6) (v := ?_) rfl (by kernel_rfl) (by kernel_rfl) (by kernel_rfl) (fun _ _ _ h => h) (Or.inl ⟨by rfl, ?_⟩) (by assumption) ?_
          rotate_left
          · intro w hSw; (try dsimp only at hSw); (try simp only [List.getElem_toArray, List.getElem_cons_succ, List.getElem_cons_zero]); go_simp; try with_reducible rfl
          try simp only [Act.put, List.setIfInBounds_toArray, List.set_cons_zero, List.set_cons_succ, List.getElem_toArray, List.getElem_cons_succ, List.getElem_cons_zero]
          refine wpAnyH_take (i := 7) (v := ?_) rfl (by kernel_rfl) (by kernel_rfl) (by kernel_rfl) (fun _ _ _ h => h) (Or.inl ⟨by rfl, ?_⟩) (by assumption) ?_
          rotate_left
          · intro w hSw; (try dsimp only at hSw); (try simp only [List.getElem_toArray, List.getElem_cons_succ, List.getElem_cons_zero]); go_simp; try with_reducible rfl
          try simp only [Act.put, List.setIfInBounds_toArray, List.set_cons_zero, List.set_cons_succ, List.getElem_toArray, List.getElem_cons_succ, List.getElem_cons_zero]
          refine wpAnyH_ready (rs := [8]) (by kernel_rfl) (by simp) ?_
          refine AllReadyH.cons rfl (fun K hK => ?_) AllReadyH.nil
          (try simp only [List.getElem_toArray, List.getElem_cons_succ, List.getElem_cons_zero])
          go_simp
          go_at_call 46; (with_reducible refine (hhs.out _ (Pure.then_ Hwd.out (hS2.out _ (by assumption)))).mono ?_); rintro e w8 ⟨rfl, hp8⟩; go_wp2_with fail
          refine hK.out _ _ ?_ (fun hHeld => ?_)
          · first | assumption | with_reducible exact hst.out | with_reducible exact hS.out _ (Pure.then_ (hS2.out _ (by assumption)) (by assumption))
          clear hK K
          try simp only [Act.put, List.setIfInBounds_toArray, List.set_cons_zero, List.set_cons_succ, List.getElem_toArray, List.getElem_cons_succ, List.getElem_cons_zero]
          refine wpAnyH_take (i := 9) (v := ?_) rfl (by kernel_rfl) (by kernel_rfl) (by kernel_rfl) (fun _ _ _ h => h) (Or.inl ⟨by rfl, ?_⟩) (by assumption) ?_
          rotate_left
          · intro w hSw; (try dsimp only at hSw); (try simp only [List.getElem_toArray, List.getElem_cons_succ, List.getElem_cons_zero]); go_simp; try with_reducible rfl
          try simp only [Act.put, List.setIfInBounds_toArray, List.set_cons_zero, List.set_cons_succ, List.getElem_toArray, List.getElem_cons_succ, List.getElem_cons_zero]
          refine wpAnyH_take (i := 10) (v := ?_) rfl (by kernel_rfl) (by kernel_rfl) (by kernel_rfl) (fun _ _ _ h => h) (Or.inl ⟨by rfl, ?_⟩) (by assumption) ?_
          rotate_left
          · intro w hSw; (try dsimp only at hSw); (try simp only [List.getElem_toArray, List.getElem_cons_succ, List.getElem_cons_zero]); go_simp; try with_reducible rfl
          try simp only [Act.put, List.setIfInBounds_toArray, List.set_cons_zero, List.set_cons_succ, List.getElem_toArray, List.getElem_cons_succ, List.getElem_cons_zero]
          refine wpAnyH_take (i := 11) (v := ?_) rfl (by kernel_rfl) (by kernel_rfl) (by kernel_rfl) (fun _ _ _ h => h) (Or.inl ⟨by rfl, ?_⟩) (by assumption) ?_
          rotate_left
          · intro w hSw; (try dsimp only at hSw); (try simp only [List.getElem_toArray, List.getElem_cons_succ, List.getElem_cons_zero]); go_simp; try with_reducible rfl
          try simp only [Act.put, List.setIfInBounds_toArray, List.set_cons_zero, List.set_cons_succ, List.getElem_toArray, List.getElem_cons_succ, List.getElem_cons_zero]
          refine wpAnyH_take (i := 12) (v := ?_) rfl (by kernel_rfl) (by kernel_rfl) (by kernel_rfl) (fun _ _ _ h => h) (Or.inl ⟨by rfl, ?_⟩) (by assumption) ?_
          rotate_left
          · intro w hSw; (try dsimp only at hSw); (try simp only [List.getElem_toArray, List.getElem_cons_succ, List.getElem_cons_zero]); go_simp; try with_reducible rfl
          try simp only [Act.put, List.setIfInBounds_toArray, List.set_cons_zero, List.set_cons_succ, List.getElem_toArray, List.getElem_cons_succ, List.getElem_cons_zero]
          refine wpAnyH_take (i := 13) (v := ?_) rfl (by kernel_rfl) (by kernel_rfl) (by kernel_rfl) (fun _ _ _ h => h) (Or.inl ⟨by rfl, ?_⟩) (by assumption) ?_
          rotate_left
          · intro w hSw; (try dsimp only at hSw); (try simp only [List.getElem_toArray, List.getElem_cons_succ, List.getElem_cons_zero]); go_simp; try with_reducible rfl
          try simp only [Act.put, List.setIfInBounds_toArray, List.set_cons_zero, List.set_cons_succ, List.getElem_toArray, List.getElem_cons_succ, List.getElem_cons_zero]
          refine wpAnyH_take (i := 14) (v := ?_) rfl (by kernel_rfl) (by kernel_rfl) (by kernel_rfl) (fun _ _ _ h => h) (Or.inl ⟨by rfl, ?_⟩) (by assumption) ?_
          rotate_left
          · intro w hSw; (try dsimp only at hSw); (try simp only [List.getElem_toArray, List.getElem_cons_succ, List.getElem_cons_zero]); go_simp; try with_reducible rfl
          try simp only [Act.put, List.setIfInBounds_toArray, List.set_cons_zero, List.set_cons_succ, List.getElem_toArray, List.getElem_cons_succ, List.getElem_cons_zero]
          refine wpAnyH_take (i := 15) (v := ?_) rfl (by kernel_rfl) (by kernel_rfl) (by kernel_rfl) (fun _ _ _ h => h) (Or.inl ⟨by rfl, ?_⟩) (by assumption) ?_
          rotate_left
          · intro w hSw; (try dsimp only at hSw); (try simp only [List.getElem_toArray, List.getElem_cons_succ, List.getElem_cons_zero]); go_simp; try with_reducible rfl
          try simp only [Act.put, List.setIfInBounds_toArray, List.set_cons_zero, List.set_cons_succ, List.getElem_toArray, List.getElem_cons_succ, List.getElem_cons_zero]
          refine wpAnyH_take (i := 16) (v := ?_) rfl (by kernel_rfl) (by kernel_rfl) (by kernel_rfl) (fun _ _ _ h => h) (Or.inl ⟨by rfl, ?_⟩) (by assumption) ?_
          rotate_left
          · intro w hSw; (try dsimp only at hSw); (try simp only [List.getElem_toArray, List.getElem_cons_succ, List.getElem_cons_zero]); go_simp; try with_reducible rfl
          try simp only [Act.put, List.setIfInBounds_toArray, List.set_cons_zero, List.set_cons_succ, List.getElem_toArray, List.getElem_cons_succ, List.getElem_cons_zero]
          refine wpAnyH_take (i := 17) (v := ?_) rfl (by kernel_rfl) (by kernel_rfl) (by kernel_rfl) (fun _ _ _ h => h) (Or.inl ⟨by rfl, ?_⟩) (by assumption) ?_
          rotate_left
          · intro w hSw; (try dsimp only at hSw); (try simp only [List.getElem_toArray, List.getElem_cons_succ, List.getElem_cons_zero]); go_simp; try with_reducible rfl
          try simp only [Act.put, List.setIfInBounds_toArray, List.set_cons_zero, List.set_cons_succ, List.getElem_toArray, List.getElem_cons_succ, List.getElem_cons_zero]
          refine wpAnyH_take (i := 18) (v := ?_) rfl (by kernel_rfl) (by kernel_rfl) (by kernel_rfl) (fun _ _ _ h => h) (Or.inl ⟨by rfl, ?_⟩) (by assumption) ?_
          rotate_left
          · intro w hSw; (try dsimp only at hSw); (try simp only [List.getElem_toArray, List.getElem_cons_succ, List.getElem_cons_zero]); go_simp; try with_reducible rfl
          try simp only [Act.put, List.setIfInBounds_toArray, List.set_cons_zero, List.set_cons_succ, List.getElem_toArray, List.getElem_cons_succ, List.getElem_cons_zero]
          refine wpAnyH_take (i := 19) (v := ?_) rfl (by kernel_rfl) (by kernel_rfl) (by kernel_rfl) (fun _ _ _ h => h) (Or.inl ⟨by rfl, ?_⟩) (by assumption) ?_
          rotate_left
          · intro w hSw; (try dsimp only at hSw); (try simp only [List.getElem_toArray, List.getElem_cons_succ, List.getElem_cons_zero]); go_simp; try with_reducible rfl
          try simp only [Act.put, List.setIfInBounds_toArray, List.set_cons_zero, List.set_cons_succ, List.getElem_toArray, List.getElem_cons_succ, List.getElem_cons_zero]
          refine wpAnyH_take (i := 20) (v := ?_) rfl (by kernel_rfl) (by kernel_rfl) (by kernel_rfl) (fun _ _ _ h => h) (Or.inl ⟨by rfl, ?_⟩) (by assumption) ?_
          rotate_left
          · intro w hSw; (try dsimp only at hSw); (try simp only [List.getElem_toArray, List.getElem_cons_succ, List.getElem_cons_zero]); go_simp; try with_reducible rfl
          try simp only [Act.put, List.setIfInBounds_toArray, List.set_cons_zero, List.set_cons_succ, List.getElem_toArray, List.getElem_cons_succ, List.getElem_cons_zero]
          refine wpAnyH_take (i := 21) (v := ?_) rfl (by kernel_rfl) (by kernel_rfl) (by kernel_rfl) (fun _ _ _ h => h) (Or.inl ⟨by rfl, ?_⟩) (by assumption) ?_
          rotate_left
          · intro w hSw; (try dsimp only at hSw); (try simp only [List.getElem_toArray, List.getElem_cons_succ, List.getElem_cons_zero]); go_simp; try with_reducible rfl
          try simp only [Act.put, List.setIfInBounds_toArray, List.set_cons_zero, List.set_cons_succ, List.getElem_toArray, List.getElem_cons_succ, List.getElem_cons_zero]
          refine wpAnyH_take (i := 22) (v := ?_) rfl (by kernel_rfl) (by kernel_rfl) (by kernel_rfl) (fun _ _ _ h => h) (Or.inl ⟨by rfl, ?_⟩) (by assumption) ?_
          rotate_left
          · intro w hSw; (try dsimp only at hSw); (try simp only [List.getElem_toArray, List.getElem_cons_succ, List.getElem_cons_zero]); go_simp; try with_reducible rfl
          try simp only [Act.put, List.setIfInBounds_toArray, List.set_cons_zero, List.set_cons_succ, List.getElem_toArray, List.getElem_cons_succ, List.getElem_cons_zero]
          refine wpAnyH_take (i := 23) (v := ?_) rfl (by kernel_rfl) (by kernel_rfl) (by kernel_rfl) (fun _ _ _ h => h) (Or.inl ⟨by rfl, ?_⟩) (by assumption) ?_
          rotate_left
          · intro w hSw; (try dsimp only at hSw); (try simp only [List.getElem_toArray, List.getElem_cons_succ, List.getElem_cons_zero]); go_simp; try with_reducible rfl
          try simp only [Act.put, List.setIfInBounds_toArray, List.set_cons_zero, List.set_cons_succ, List.getElem_toArray, List.getElem_cons_succ, List.getElem_cons_zero]
          refine wpAnyH_ready (rs := [24]) (by kernel_rfl) (by simp) ?_
          refine AllReadyH.cons rfl (fun K hK => ?_) AllReadyH.nil
          (try simp only [List.getElem_toArray, List.getElem_cons_succ, List.getElem_cons_zero])
          go_simp
          go_at_call 47; (with_reducible refine (hls.out _).mono ?_); rintro e w9 ⟨rfl, hp9⟩; go_wp2_with fail
          refine hK.out _ _ ?_ (fun hHeld => ?_)
          · first | assumption | with_reducible exact hst.out | with_reducible exact hS.out _ (Pure.then_ (hS2.out _ (by assumption)) (by assumption))
          clear hK K
          try simp only [Act.put, List.setIfInBounds_toArray, List.set_cons_zero, List.set_cons_succ, List.getElem_toArray, List.getElem_cons_succ, List.getElem_cons_zero]
          refine wpAnyH_take (i := 25) (v := ?_) rfl (by kernel_rfl) (by kernel_rfl) (by kernel_rfl) (fun _ _ _ h => h) (Or.inl ⟨by rfl, ?_⟩) (by assumption) ?_
          rotate_left
          · intro w hSw; (try dsimp only at hSw); (try simp only [List.getElem_toArray, List.getElem_cons_succ, List.getElem_cons_zero]); go_simp; try with_reducible rfl
          try simp only [Act.put, List.setIfInBounds_toArray, List.set_cons_zero, List.set_cons_succ, List.getElem_toArray, List.getElem_cons_succ, List.getElem_cons_zero]
          refine wpAnyH_take (i := 26) (v := ?_) rfl (by kernel_rfl) (by kernel_rfl) (by kernel_rfl) (fun _ _ _ h => h) (Or.inl ⟨by rfl, ?_⟩) (by assumption) ?_
          rotate_left
          · intro w hSw; (try dsimp only at hSw); (try simp only [List.getElem_toArray, List.getElem_cons_succ, List.getElem_cons_zero]); go_simp; try with_reducible rfl
          try simp only [Act.put, List.setIfInBounds_toArray, List.set_cons_zero, List.set_cons_succ, List.getElem_toArray, List.getElem_cons_succ, List.getElem_cons_zero]
          refine wpAnyH_take (i := 27) (v := ?_) rfl (by kernel_rfl) (by kernel_rfl) (by kernel_rfl) (fun _ _ _ h => h) (Or.inl ⟨by rfl, ?_⟩) (by assumption) ?_
          rotate_left
          · intro w hSw; (try dsimp only at hSw); (try simp only [List.getElem_toArray, List.getElem_cons_succ, List.getElem_cons_zero]); go_simp; try with_reducible rfl
          try simp only [Act.put, List.setIfInBounds_toArray, List.set_cons_zero, List.set_cons_succ, List.getElem_toArray, List.getElem_cons_succ, List.getElem_cons_zero]
          refine wpAnyH_done (by kernel_rfl) ?_ _
          have hx := hid (Hp.out.then_ (Pure.then_ Hpd.out (hS2.out w9 (by assumption))))
          clear hst hS hS2 hp7 hp8 hp9
          go_wp2
          go_ret
          exact ⟨by rw [HE.out]; rfl, Hpz.out.then_ hx.out⟩
        | true =>
          have HN := hid (hYes.out hbat2.out)
          have hS : Hid (∀ W, Pure Wd W → (W.cell? ⟨wr.heap.size, 0, none⟩ = some (.int .i64 z1) ∧ W.cell? ⟨wr.heap.size, 1, none⟩ = some (.int .i64 z2) ∧ W.cell? ⟨wr.heap.size, 2, none⟩ = some (.string (bs zq)) ∧ W.cell? ⟨wr.heap.size, 3, none⟩ = some (.string (bs zb)) ∧ W.cell? ⟨wr.heap.size, 4, none⟩ = some (.int .i64 zc) ∧ W.cell? ⟨w.heap.size, 0, none⟩ = some (.slice (some ⟨b, off, none⟩) M.length c0) ∧ W.cell? ⟨w.heap.size, 1, none⟩ = some v1 ∧ W.cell? ⟨w.heap.size, 2, none⟩ = some v2 ∧ W.cell? ⟨b, off + (k - 1) * 5, none⟩ = some (.int .i64 q1) ∧ W.cell? ⟨b, off + (k - 1) * 5 + 1, none⟩ = some (.int .i64 q2) ∧ Pure Wd W)) := fun W hW => by
            have hwb := Pure.then_ hpd hW
            have ed := (hW.block _ (lt_of_block hbd)).trans hbd
            obtain ⟨g0, g1, g2⟩ := hC.out W (hp.then_ hwb)
            exact ⟨cell_of_block ed 0, cell_of_block ed 1, cell_of_block ed 2, cell_of_block ed 3, cell_of_block ed 4, g0, g1, g2, (hwb.cell hb).trans y0, (hwb.cell hb).trans y1, hW⟩
          have hst := hid (hS.out Wd.drew (Below.refl _ _).drew)
          have hS2 : Hid (∀ W : World, (W.cell? ⟨wr.heap.size, 0, none⟩ = some (.int .i64 z1) ∧ W.cell? ⟨wr.heap.size, 1, none⟩ = some (.int .i64 z2) ∧ W.cell? ⟨wr.heap.size, 2, none⟩ = some (.string (bs zq)) ∧ W.cell? ⟨wr.heap.size, 3, none⟩ = some (.string (bs zb)) ∧ W.cell? ⟨wr.heap.size, 4, none⟩ = some (.int .i64 zc) ∧ W.cell? ⟨w.heap.size, 0, none⟩ = some (.slice (some ⟨b, off, none⟩) M.length c0) ∧ W.cell? ⟨w.heap.size, 1, none⟩ = some v1 ∧ W.cell? ⟨w.heap.size, 2, none⟩ = some v2 ∧ W.cell? ⟨b, off + (k - 1) * 5, none⟩ = some (.int .i64 q1) ∧ W.cell? ⟨b, off + (k - 1) * 5 + 1, none⟩ = some (.int .i64 q2) ∧ Pure Wd W) → Pure Wd W) := fun W h => h.2.2.2.2.2.2.2.2.2.2
          have Hpd := hid hpd
          have Hwd := hid (hp.then_ hpd)
          clear hp hb hbd hpd y0 y1
          generalize hj : k - 1 = j at *
          go_wp2_with fail
          rw [← hWd]
          clear hWd x0 x1 x2 x3 x4
          refine wp_region_held_drew (S := (fun W => W.cell? ⟨wr.heap.size, 0, none⟩ = some (.int .i64 z1) ∧ W.cell? ⟨wr.heap.size, 1, none⟩ = some (.int .i64 z2) ∧ W.cell? ⟨wr.heap.size, 2, none⟩ = some (.string (bs zq)) ∧ W.cell? ⟨wr.heap.size, 3, none⟩ = some (.string (bs zb)) ∧ W.cell? ⟨wr.heap.size, 4, none⟩ = some (.int .i64 zc) ∧ W.cell? ⟨w.heap.size, 0, none⟩ = some (.slice (some ⟨b, off, none⟩) M.length c0) ∧ W.cell? ⟨w.heap.size, 1, none⟩ = some v1 ∧ W.cell? ⟨w.heap.size, 2, none⟩ = some v2 ∧ W.cell? ⟨b, off + j * 5, none⟩ = some (.int .i64 q1) ∧ W.cell? ⟨b, off + j * 5 + 1, none⟩ = some (.int .i64 q2) ∧ Pure Wd W)) (by kernel_rfl) ?_ (fun hHeld => ?_)
          · first | assumption | with_reducible exact hst.out | with_reducible exact hS.out _ (Pure.then_ (hS2.out _ (by assumption)) (by assumption))
          refine wpAnyH_take (i := 0) (v := ?_) rfl (by kernel_rfl) (by kernel_rfl) (by kernel_rfl) (fun _ _ _ h => h) (Or.inl ⟨by rfl, ?_⟩) (by assumption) ?_
          rotate_left
          · intro w hSw; (try dsimp only at hSw); (try simp only [List.getElem_toArray, List.getElem_cons_zero]); go_simp; try with_reducible rfl
          try simp only [Act.put, List.setIfInBounds_toArray, List.set_cons_zero, List.set_cons_succ, List.getElem_toArray, List.getElem_cons_zero]
          refine wpAnyH_ready (rs := [1]) (by kernel_rfl) (by simp) ?_
          refine AllReadyH.cons rfl (fun K hK => ?_) AllReadyH.nil
          (try simp only [List.getElem_toArray, List.getElem_cons_succ, List.getElem_cons_zero])
          go_simp
          go_at_call 57; (with_reducible refine (hmy.out _).mono ?_); rintro e w7 ⟨rfl, hp7⟩; go_wp2_with fail
          refine hK.out _ _ ?_ (fun hHeld => ?_)
          · first | assumption | with_reducible exact hst.out | with_reducible exact hS.out _ (Pure.then_ (hS2.out _ (by assumption)) (by assumption))
          clear hK K
          try simp only [Act.put, List.setIfInBounds_toArray, List.set_cons_zero, List.set_cons_succ, List.getElem_toArray, List.getElem_cons_succ, List.getElem_cons_zero]
          refine wpAnyH_take (i := 2) (v := ?_) rfl (by kernel_rfl) (by kernel_rfl) (by kernel_rfl) (fun _ _ _ h => h) (Or.inl ⟨by rfl, ?_⟩) (by assumption) ?_
          rotate_left
          · intro w hSw; (try dsimp only at hSw); (try simp only [List.getElem_toArray, List.getElem_cons_succ, List.getElem_cons_zero]); go_simp; try with_reducible rfl
          try simp only [Act.put, List.setIfInBounds_toArray, List.set_cons_zero, List.set_cons_succ, List.getElem_toArray, List.getElem_cons_succ, List.getElem_cons_zero]
          refine wpAnyH_take (i := 3) (v := ?_) rfl (by kernel_rfl) (by kernel_rfl) (by kernel_rfl) (fun _ _ _ h => h) (Or.inl ⟨by rfl, ?_⟩) (by assumption) ?_
          rotate_left
          · intro w hSw; (try dsimp only at hSw); (try simp only [List.getElem_toArray, List.getElem_cons_succ, List.getElem_cons_zero]); go_simp; try with_reducible rfl
          try simp only [Act.put, List.setIfInBounds_toArray, List.set_cons_zero, List.set_cons_succ, List.getElem_toArray, List.getElem_cons_succ, List.getElem_cons_zero]
          refine wpAnyH_take (i := 4) (v := ?_) rfl (by kernel_rfl) (by kernel_rfl) (by kernel_rfl) (fun _ _ _ h => h) (Or.inl ⟨by rfl, ?_⟩) (by assumption) ?_
          rotate_left
          · intro w hSw; (try dsimp only at hSw); (try simp only [List.getElem_toArray, List.getElem_cons_succ, List.getElem_cons_zero]); go_simp; try with_reducible rfl
          try simp only [Act.put, List.setIfInBounds_toArray, List.set_cons_zero, List.set_cons_succ, List.getElem_toArray, List.getElem_cons_succ, List.getElem_cons_zero]
          refine wpAnyH_take (i := 5) (v := ?_) rfl (by kernel_rfl) (by kernel_rfl) (by kernel_rfl) (fun _ _ _ h => h) (Or.inl ⟨by rfl, ?_⟩) (by assumption) ?_
          rotate_left
          · intro w hSw; (try dsimp only at hSw); (try simp only [List.getElem_toArray, List.getElem_cons_succ, List.getElem_cons_zero]); go_simp; try with_reducible rfl
          try simp only [Act.put, List.setIfInBounds_toArray, List.set_cons_zero, List.set_cons_succ, List.getElem_toArray, List.getElem_cons_succ, List.getElem_cons_zero]
          refine wpAnyH_take (i := 6) (v := ?_) rfl (by kernel_rfl) (by kernel_rfl) (by kernel_rfl) (fun _ _ _ h => h) (Or.inl ⟨by rfl, ?_⟩) (by assumption) ?_
          rotate_left
          · intro w hSw; (try dsimp only at hSw); (try simp only [List.getElem_toArray, List.getElem_cons_succ, List.getElem_cons_zero]); go_simp; try with_reducible rfl
          try simp only [Act.put, List.setIfInBounds_toArray, List.set_cons_zero, List.set_cons_succ, List.getElem_toArray, List.getElem_cons_succ, List.getElem_cons_zero]
          refine wpAnyH_take (i := 7) (v := ?_) rfl (by kernel_rfl) (by kernel_rfl) (by kernel_rfl) (fun _ _ _ h => h) (Or.inl ⟨by rfl, ?_⟩) (by assumption) ?_
          rotate_left
          · intro w hSw; (try dsimp only at hSw); (try simp only [List.getElem_toArray, List.getElem_cons_succ, List.getElem_cons_zero]); go_simp; try with_reducible rfl
          try simp only [Act.put, List.setIfInBounds_toArray, List.set_cons_zero, List.set_cons_succ, List.getElem_toArray, List.getElem_cons_succ, List.getElem_cons_zero]
          refine wpAnyH_ready (rs := [8]) (by kernel_rfl) (by simp) ?_
          refine AllReadyH.cons rfl (fun K hK => ?_) AllReadyH.nil
          (try simp only [List.getElem_toArray, List.getElem_cons_succ, List.getElem_cons_zero])
          go_simp
          go_at_call 46; (with_reducible refine (hhs.out _ (Pure.then_ Hwd.out (hS2.out _ (by assumption)))).mono ?_); rintro e w8 ⟨rfl, hp8⟩; go_wp2_with fail
          refine hK.out _ _ ?_ (fun hHeld => ?_)
          · first | assumption | with_reducible exact hst.out | with_reducible exact hS.out _ (Pure.then_ (hS2.out _ (by assumption)) (by assumption))
          clear hK K
          try simp only [Act.put, List.setIfInBounds_toArray, List.set_cons_zero, List.set_cons_succ, List.getElem_toArray, List.getElem_cons_succ, List.getElem_cons_zero]
          refine wpAnyH_take (i := 9) (v := ?_) rfl (by kernel_rfl) (by kernel_rfl) (by kernel_rfl) (fun _ _ _ h => h) (Or.inl ⟨by rfl, ?_⟩) (by assumption) ?_
          rotate_left
          · intro w hSw; (try dsimp only at hSw); (try simp only [List.getElem_toArray, List.getElem_cons_succ, List.getElem_cons_zero]); go_simp; try with_reducible rfl
          try simp only [Act.put, List.setIfInBounds_toArray, List.set_cons_zero, List.set_cons_succ, List.getElem_toArray, List.getElem_cons_succ, List.getElem_cons_zero]
          refine wpAnyH_take (i := 10) (v := ?_) rfl (by kernel_rfl) (by kernel_rfl) (by kernel_rfl) (fun _ _ _ h => h) (Or.inl ⟨by rfl, ?_⟩) (by assumption) ?_
          rotate_left
          · intro w hSw; (try dsimp only at hSw); (try simp only [List.getElem_toArray, List.getElem_cons_succ, List.getElem_cons_zero]); go_simp; try with_reducible rfl
          try simp only [Act.put, List.setIfInBounds_toArray, List.set_cons_zero, List.set_cons_succ, List.getElem_toArray, List.getElem_cons_succ, List.getElem_cons_zero]
          refine wpAnyH_take (i := 11) (v := ?_) rfl (by kernel_rfl) (by kernel_rfl) (by kernel_rfl) (fun _ _ _ h => h) (Or.inl ⟨by rfl, ?_⟩) (by assumption) ?_
          rotate_left
          · intro w hSw; (try dsimp only at hSw); (try simp only [List.getElem_toArray, List.getElem_cons_succ, List.getElem_cons_zero]); go_simp; try with_reducible rfl
          try simp only [Act.put, List.setIfInBounds_toArray, List.set_cons_zero, List.set_cons_succ, List.getElem_toArray, List.getElem_cons_succ, List.getElem_cons_zero]
          refine wpAnyH_take (i := 12) (v := ?_) rfl (by kernel_rfl) (by kernel_rfl) (by kernel_rfl) (fun _ _ _ h => h) (Or.inl ⟨by rfl, ?_⟩) (by assumption) ?_
          rotate_left
          · intro w hSw; (try dsimp only at hSw); (try simp only [List.getElem_toArray, List.getElem_cons_succ, List.getElem_cons_zero]); go_simp; try with_reducible rfl
          try simp only [Act.put, List.setIfInBounds_toArray, List.set_cons_zero, List.set_cons_succ, List.getElem_toArray, List.getElem_cons_succ, List.getElem_cons_zero]
          refine wpAnyH_take (i := 13) (v := ?_) rfl (by kernel_rfl) (by kernel_rfl) (by kernel_rfl) (fun _ _ _ h => h) (Or.inl ⟨by rfl, ?_⟩) (by assumption) ?_
          rotate_left
          · intro w hSw; (try dsimp only at hSw); (try simp only [List.getElem_toArray, List.getElem_cons_succ, List.getElem_cons_zero]); go_simp; try with_reducible rfl
          try simp only [Act.put, List.setIfInBounds_toArray, List.set_cons_zero, List.set_cons_succ, List.getElem_toArray, List.getElem_cons_succ, List.getElem_cons_zero]
          refine wpAnyH_take (i := 14) (v := ?_) rfl (by kernel_rfl) (by kernel_rfl) (by kernel_rfl) (fun _ _ _ h => h) (Or.inl ⟨by rfl, ?_⟩) (by assumption) ?_
          rotate_left
          · intro w hSw; (try dsimp only at hSw); (try simp only [List.getElem_toArray, List.getElem_cons_succ, List.getElem_cons_zero]); go_simp; try with_reducible rfl
          try simp only [Act.put, List.setIfInBounds_toArray, List.set_cons_zero, List.set_cons_succ, List.getElem_toArray, List.getElem_cons_succ, List.getElem_cons_zero]
          refine wpAnyH_take (i := 15) (v := ?_) rfl (by kernel_rfl) (by kernel_rfl) (by kernel_rfl) (fun _ _ _ h => h) (Or.inl ⟨by rfl, ?_⟩) (by assumption) ?_
          rotate_left
          · intro w hSw; (try dsimp only at hSw); (try simp only [List.getElem_toArray, List.getElem_cons_succ, List.getElem_cons_zero]); go_simp; try with_reducible rfl
          try simp only [Act.put, List.setIfInBounds_toArray, List.set_cons_zero, List.set_cons_succ, List.getElem_toArray, List.getElem_cons_succ, List.getElem_cons_zero]
          refine wpAnyH_take (i := 16) (v := ?_) rfl (by kernel_rfl) (by kernel_rfl) (by kernel_rfl) (fun _ _ _ h => h) (Or.inl ⟨by rfl, ?_⟩) (by assumption) ?_
          rotate_left
          · intro w hSw; (try dsimp only at hSw); (try simp only [List.getElem_toArray, List.getElem_cons_succ, List.getElem_cons_zero]); go_simp; try with_reducible rfl
          try simp only [Act.put, List.setIfInBounds_toArray, List.set_cons_zero, List.set_cons_succ, List.getElem_toArray, List.getElem_cons_succ, List.getElem_cons_zero]
          refine wpAnyH_take (i := 17) (v := ?_) rfl (by kernel_rfl) (by kernel_rfl) (by kernel_rfl) (fun _ _ _ h => h) (Or.inl ⟨by rfl, ?_⟩) (by assumption) ?_
          rotate_left
          · intro w hSw; (try dsimp only at hSw); (try simp only [List.getElem_toArray, List.getElem_cons_succ, List.getElem_cons_zero]); go_simp; try with_reducible rfl
          try simp only [Act.put, List.setIfInBounds_toArray, List.set_cons_zero, List.set_cons_succ, List.getElem_toArray, List.getElem_cons_succ, List.getElem_cons_zero]
          refine wpAnyH_take (i := 18) (v := ?_) rfl (by kernel_rfl) (by kernel_rfl) (by kernel_rfl) (fun _ _ _ h => h) (Or.inl ⟨by rfl, ?_⟩) (by assumption) ?_
          rotate_left
          · intro w hSw; (try dsimp only at hSw); (try simp only [List.getElem_toArray, List.getElem_cons_succ, List.getElem_cons_zero]); go_simp; try with_reducible rfl
          try simp only [Act.put, List.setIfInBounds_toArray, List.set_cons_zero, List.set_cons_succ, List.getElem_toArray, List.getElem_cons_succ, List.getElem_cons_zero]
          refine wpAnyH_take (i := 19) (v := ?_) rfl (by kernel_rfl) (by kernel_rfl) (by kernel_rfl) (fun _ _ _ h => h) (Or.inl ⟨by rfl, ?_⟩) (by assumption) ?_
          rotate_left
          · intro w hSw; (try dsimp only at hSw); (try simp only [List.getElem_toArray, List.getElem_cons_succ, List.getElem_cons_zero]); go_simp; try with_reducible rfl
          try simp only [Act.put, List.setIfInBounds_toArray, List.set_cons_zero, List.set_cons_succ, List.getElem_toArray, List.getElem_cons_succ, List.getElem_cons_zero]
          refine wpAnyH_take (i := 20) (v := ?_) rfl (by kernel_rfl) (by kernel_rfl) (by kernel_rfl) (fun _ _ _ h => h) (Or.inl ⟨by rfl, ?_⟩) (by assumption) ?_
          rotate_left
          · intro w hSw; (try dsimp only at hSw); (try simp only [List.getElem_toArray, List.getElem_cons_succ, List.getElem_cons_zero]); go_simp; try with_reducible rfl
          try simp only [Act.put, List.setIfInBounds_toArray, List.set_cons_zero, List.set_cons_succ, List.getElem_toArray, List.getElem_cons_succ, List.getElem_cons_zero]
          refine wpAnyH_take (i := 21) (v := ?_) rfl (by kernel_rfl) (by kernel_rfl) (by kernel_rfl) (fun _ _ _ h => h) (Or.inl ⟨by rfl, ?_⟩) (by assumption) ?_
          rotate_left
          · intro w hSw; (try dsimp only at hSw); (try simp only [List.getElem_toArray, List.getElem_cons_succ, List.getElem_cons_zero]); go_simp; try with_reducible rfl
          try simp only [Act.put, List.setIfInBounds_toArray, List.set_cons_zero, List.set_cons_succ, List.getElem_toArray, List.getElem_cons_succ, List.getElem_cons_zero]
          refine wpAnyH_take (i := 22) (v := ?_) rfl (by kernel_rfl) (by kernel_rfl) (by kernel_rfl) (fun _ _ _ h => h) (Or.inl ⟨by rfl, ?_⟩) (by assumption) ?_
          rotate_left
          · intro w hSw; (try dsimp only at hSw); (try simp only [List.getElem_toArray, List.getElem_cons_succ, List.getElem_cons_zero]); go_simp; try with_reducible rfl
          try simp only [Act.put, List.setIfInBounds_toArray, List.set_cons_zero, List.set_cons_succ, List.getElem_toArray, List.getElem_cons_succ, List.getElem_cons_zero]
          refine wpAnyH_take (i := 23) (v := ?_) rfl (by kernel_rfl) (by kernel_rfl) (by kernel_rfl) (fun _ _ _ h => h) (Or.inl ⟨by rfl, ?_⟩) (by assumption) ?_
          rotate_left
          · intro w hSw; (try dsimp only at hSw); (try simp only [List.getElem_toArray, List.getElem_cons_succ, List.getElem_cons_zero]); go_simp; try with_reducible rfl
          try simp only [Act.put, List.setIfInBounds_toArray, List.set_cons_zero, List.set_cons_succ, List.getElem_toArray, List.getElem_cons_succ, List.getElem_cons_zero]
          refine wpAnyH_ready (rs := [24]) (by kernel_rfl) (by simp) ?_
          refine AllReadyH.cons rfl (fun K hK => ?_) AllReadyH.nil
          (try simp only [List.getElem_toArray, List.getElem_cons_succ, List.getElem_cons_zero])
          go_simp
          go_at_call 47; (with_reducible refine (hls.out _).mono ?_); rintro e w9 ⟨rfl, hp9⟩; go_wp2_with fail
          refine hK.out _ _ ?_ (fun hHeld => ?_)
          · first | assumption | with_reducible exact hst.out | with_reducible exact hS.out _ (Pure.then_ (hS2.out _ (by assumption)) (by assumption))
          clear hK K
          try simp only [Act.put, List.setIfInBounds_toArray, List.set_cons_zero, List.set_cons_succ, List.getElem_toArray, List.getElem_cons_succ, List.getElem_cons_zero]
          refine wpAnyH_take (i := 25) (v := ?_) rfl (by kernel_rfl) (by kernel_rfl) (by kernel_rfl) (fun _ _ _ h => h) (Or.inl ⟨by rfl, ?_⟩) (by assumption) ?_
          rotate_left
          · intro w hSw; (try dsimp only at hSw); (try simp only [List.getElem_toArray, List.getElem_cons_succ, List.getElem_cons_zero]); go_simp; try with_reducible rfl
          try simp only [Act.put, List.setIfInBounds_toArray, List.set_cons_zero, List.set_cons_succ, List.getElem_toArray, List.getElem_cons_succ, List.getElem_cons_zero]
          refine wpAnyH_take (i := 26) (v := ?_) rfl (by kernel_rfl) (by kernel_rfl) (by kernel_rfl) (fun _ _ _ h => h) (Or.inl ⟨by rfl, ?_⟩) (by assumption) ?_
          rotate_left
          · intro w hSw; (try dsimp only at hSw); (try simp only [List.getElem_toArray, List.getElem_cons_succ, List.getElem_cons_zero]); go_simp; try with_reducible rfl
          try simp only [Act.put, List.setIfInBounds_toArray, List.set_cons_zero, List.set_cons_succ, List.getElem_toArray, List.getElem_cons_succ, List.getElem_cons_zero]
          refine wpAnyH_take (i := 27) (v := ?_) rfl (by kernel_rfl) (by kernel_rfl) (by kernel_rfl) (fun _ _ _ h => h) (Or.inl ⟨by rfl, ?_⟩) (by assumption) ?_
          rotate_left
          · intro w hSw; (try dsimp only at hSw); (try simp only [List.getElem_toArray, List.getElem_cons_succ, List.getElem_cons_zero]); go_simp; try with_reducible rfl
          try simp only [Act.put, List.setIfInBounds_toArray, List.set_cons_zero, List.set_cons_succ, List.getElem_toArray, List.getElem_cons_succ, List.getElem_cons_zero]
          refine wpAnyH_done (by kernel_rfl) ?_ _
          have hx := hid (Hp.out.then_ (Pure.then_ Hpd.out (hS2.out w9 (by assumption))))
          clear hst hS hS2 hp7 hp8 hp9
          go_wp2
          go_roundw
          case rel => exact ⟨k + 1, by omega, by go_num, HN.out, hx.out⟩
          case measure => simp [RowKit.intOf]; omega
      · have hg : decide ((0 : Int) < (k : Int)) = false := by simp; omega
        have HN := hid (hYes.out (by rw [hbat.out, decide_eq_true (show k = 0 by omega)]; rfl))
        have hS : Hid (∀ W, Pure Wd W → (W.cell? ⟨wr.heap.size, 0, none⟩ = some (.int .i64 z1) ∧ W.cell? ⟨wr.heap.size, 1, none⟩ = some (.int .i64 z2) ∧ W.cell? ⟨wr.heap.size, 2, none⟩ = some (.string (bs zq)) ∧ W.cell? ⟨wr.heap.size, 3, none⟩ = some (.string (bs zb)) ∧ W.cell? ⟨wr.heap.size, 4, none⟩ = some (.int .i64 zc) ∧ W.cell? ⟨w.heap.size, 0, none⟩ = some (.slice (some ⟨b, off, none⟩) M.length c0) ∧ W.cell? ⟨w.heap.size, 1, none⟩ = some v1 ∧ W.cell? ⟨w.heap.size, 2, none⟩ = some v2 ∧ Pure Wd W)) := fun W hW => by
          have hwb := Pure.then_ hpd hW
          have ed := (hW.block _ (lt_of_block hbd)).trans hbd
          obtain ⟨g0, g1, g2⟩ := hC.out W (hp.then_ hwb)
          exact ⟨cell_of_block ed 0, cell_of_block ed 1, cell_of_block ed 2, cell_of_block ed 3, cell_of_block ed 4, g0, g1, g2, hW⟩
        have hst := hid (hS.out Wd.drew (Below.refl _ _).drew)
        have hS2 : Hid (∀ W : World, (W.cell? ⟨wr.heap.size, 0, none⟩ = some (.int .i64 z1) ∧ W.cell? ⟨wr.heap.size, 1, none⟩ = some (.int .i64 z2) ∧ W.cell? ⟨wr.heap.size, 2, none⟩ = some (.string (bs zq)) ∧ W.cell? ⟨wr.heap.size, 3, none⟩ = some (.string (bs zb)) ∧ W.cell? ⟨wr.heap.size, 4, none⟩ = some (.int .i64 zc) ∧ W.cell? ⟨w.heap.size, 0, none⟩ = some (.slice (some ⟨b, off, none⟩) M.length c0) ∧ W.cell? ⟨w.heap.size, 1, none⟩ = some v1 ∧ W.cell? ⟨w.heap.size, 2, none⟩ = some v2 ∧ Pure Wd W) → Pure Wd W) := fun W h => h.2.2.2.2.2.2.2.2
        have Hpd := hid hpd
        have Hwd := hid (hp.then_ hpd)
        clear hp hb hbd hpd
        go_wp2_with fail
        rw [← hWd]
        clear hWd x0 x1 x2 x3 x4
        refine wp_region_held_drew (S := (fun W => W.cell? ⟨wr.heap.size, 0, none⟩ = some (.int .i64 z1) ∧ W.cell? ⟨wr.heap.size, 1, none⟩ = some (.int .i64 z2) ∧ W.cell? ⟨wr.heap.size, 2, none⟩ = some (.string (bs zq)) ∧ W.cell? ⟨wr.heap.size, 3, none⟩ = some (.string (bs zb)) ∧ W.cell? ⟨wr.heap.size, 4, none⟩ = some (.int .i64 zc) ∧ W.cell? ⟨w.heap.size, 0, none⟩ = some (.slice (some ⟨b, off, none⟩) M.length c0) ∧ W.cell? ⟨w.heap.size, 1, none⟩ = some v1 ∧ W.cell? ⟨w.heap.size, 2, none⟩ = some v2 ∧ Pure Wd W)) (by kernel_rfl) ?_ (fun hHeld => ?_)
        · first | assumption | with_reducible exact hst.out | with_reducible exact hS.out _ (Pure.then_ (hS2.out _ (by assumption)) (by assumption))
        refine wpAnyH_take (i := 0) (v := ?_) rfl (by kernel_rfl) (by kernel_rfl) (by kernel_rfl) (fun _ _ _ h => h) (Or.inl ⟨by rfl, ?_⟩) (by assumption) ?_
        rotate_left
        · intro w hSw; (try dsimp only at hSw); (try simp only [List.getElem_toArray, List.getElem_cons_zero]); go_simp; try with_reducible rfl
        try simp only [Act.put, List.setIfInBounds_toArray, List.set_cons_zero, List.set_cons_succ, List.getElem_toArray, List.getElem_cons_zero]
        refine wpAnyH_ready (rs := [1]) (by kernel_rfl) (by simp) ?_
        refine AllReadyH.cons rfl (fun K hK => ?_) AllReadyH.nil
        (try simp only [List.getElem_toArray, List.getElem_cons_succ, List.getElem_cons_zero])
        go_simp
        go_at_call 57; (with_reducible refine (hmy.out _).mono ?_); rintro e w7 ⟨rfl, hp7⟩; go_wp2_with fail
        refine hK.out _ _ ?_ (fun hHeld => ?_)
        · first | assumption | with_reducible exact hst.out | with_reducible exact hS.out _ (Pure.then_ (hS2.out _ (by assumption)) (by assumption))
        clear hK K
        try simp only [Act.put, List.setIfInBounds_toArray, List.set_cons_zero, List.set_cons_succ, List.getElem_toArray, List.getElem_cons_succ, List.getElem_cons_zero]
        refine wpAnyH_take (i := 2) (v := ?_) rfl (by kernel_rfl) (by kernel_rfl) (by kernel_rfl) (fun _ _ _ h => h) (Or.inl ⟨by rfl, ?_⟩) (by assumption) ?_
        rotate_left
        · intro w hSw; (try dsimp only at hSw); (try simp only [List.getElem_toArray, List.getElem_cons_succ, List.getElem_cons_zero]); go_simp; try with_reducible rfl
        try simp only [Act.put, List.setIfInBounds_toArray, List.set_cons_zero, List.set_cons_succ, List.getElem_toArray, List.getElem_cons_succ, List.getElem_cons_zero]
        refine wpAnyH_take (i := 3) (v := ?_) rfl (by kernel_rfl) (by kernel_rfl) (by kernel_rfl) (fun _ _ _ h => h) (Or.inl ⟨by rfl, ?_⟩) (by assumption) ?_
        rotate_left
        · intro w hSw; (try dsimp only at hSw); (try simp only [List.getElem_toArray, List.getElem_cons_succ, List.getElem_cons_zero]); go_simp; try with_reducible rfl
        try simp only [Act.put, List.setIfInBounds_toArray, List.set_cons_zero, List.set_cons_succ, List.getElem_toArray, List.getElem_cons_succ, List.getElem_cons_zero]
        refine wpAnyH_take (i := 4) (v := ?_) rfl (by kernel_rfl) (by kernel_rfl) (by kernel_rfl) (fun _ _ _ h => h) (Or.inl ⟨by rfl, ?_⟩) (by assumption) ?_
        rotate_left
        · intro w hSw; (try dsimp only at hSw); (try simp only [List.getElem_toArray, List.getElem_cons_succ, List.getElem_cons_zero]); go_simp; try with_reducible rfl
        try simp only [Act.put, List.setIfInBounds_toArray, List.set_cons_zero, List.set_cons_succ, List.getElem_toArray, List.getElem_cons_succ, List.getElem_cons_zero]
        refine wpAnyH_take (i := 5) (v := ?_) rfl (by kernel_rfl) (by kernel_rfl) (by kernel_rfl) (fun _ _ _ h => h) (Or.inl ⟨by rfl, ?_⟩) (by assumption) ?_
        rotate_left
        · intro w hSw; (try dsimp only at hSw); (try simp only [List.getElem_toArray, List.getElem_cons_succ, List.getElem_cons_zero]); go_simp; try with_reducible rfl
        try simp only [Act.put, List.setIfInBounds_toArray, List.set_cons_zero, List.set_cons_succ, List.getElem_toArray, List.getElem_cons_succ, List.getElem_cons_zero]
        refine wpAnyH_take (i := 6) (v := ?_) rfl (by kernel_rfl) (by kernel_rfl) (by kernel_rfl) (fun _ _ _ h => h) (Or.inl ⟨by rfl, ?_⟩) (by assumption) ?_
        rotate_left
        · intro w hSw; (try dsimp only at hSw); (try simp only [List.getElem_toArray, List.getElem_cons_succ, List.getElem_cons_zero]); go_simp; try with_reducible rfl
        try simp only [Act.put, List.setIfInBounds_toArray, List.set_cons_zero, List.set_cons_succ, List.getElem_toArray, List.getElem_cons_succ, List.getElem_cons_zero]
        refine wpAnyH_take (i := 7) (v := ?_) rfl (by kernel_rfl) (by kernel_rfl) (by kernel_rfl) (fun _ _ _ h => h) (Or.inl ⟨by rfl, ?_⟩) (by assumption) ?_
        rotate_left
        · intro w hSw; (try dsimp only at hSw); (try simp only [List.getElem_toArray, List.getElem_cons_succ, List.getElem_cons_zero]); go_simp; try with_reducible rfl
        try simp only [Act.put, List.setIfInBounds_toArray, List.set_cons_zero, List.set_cons_succ, List.getElem_toArray, List.getElem_cons_succ, List.getElem_cons_zero]
        refine wpAnyH_ready (rs := [8]) (by kernel_rfl) (by simp) ?_
        refine AllReadyH.cons rfl (fun K hK => ?_) AllReadyH.nil
        (try simp only [List.getElem_toArray, List.getElem_cons_succ, List.getElem_cons_zero])
        go_simp
        go_at_call 46; (with_reducible refine (hhs.out _ (Pure.then_ Hwd.out (hS2.out _ (by assumption)))).mono ?_); rintro e w8 ⟨rfl, hp8⟩; go_wp2_with fail
        refine hK.out _ _ ?_ (fun hHeld => ?_)
        · first | assumption | with_reducible exact hst.out | with_reducible exact hS.out _ (Pure.then_ (hS2.out _ (by assumption)) (by assumption))
        clear hK K
        try simp only [Act.put, List.setIfInBounds_toArray, List.set_cons_zero, List.set_cons_succ, List.getElem_toArray, List.getElem_cons_succ, List.getElem_cons_zero]
        refine wpAnyH_take (i := 9) (v := ?_) rfl (by kernel_rfl) (by kernel_rfl) (by kernel_rfl) (fun _ _ _ h => h) (Or.inl ⟨by rfl, ?_⟩) (by assumption) ?_
        rotate_left
        · intro w hSw; (try dsimp only at hSw); (try simp only [List.getElem_toArray, List.getElem_cons_succ, List.getElem_cons_zero]); go_simp; try with_reducible rfl
        try simp only [Act.put, List.setIfInBounds_toArray, List.set_cons_zero, List.set_cons_succ, List.getElem_toArray, List.getElem_cons_succ, List.getElem_cons_zero]
        refine wpAnyH_take (i := 10) (v := ?_) rfl (by kernel_rfl) (by kernel_rfl) (by kernel_rfl) (fun _ _ _ h => h) (Or.inl ⟨by rfl, ?_⟩) (by assumption) ?_
        rotate_left
        · intro w hSw; (try dsimp only at hSw); (try simp only [List.getElem_toArray, List.getElem_cons_succ, List.getElem_cons_zero]); go_simp; try with_reducible rfl
        try simp only [Act.put, List.setIfInBounds_toArray, List.set_cons_zero, List.set_cons_succ, List.getElem_toArray, List.getElem_cons_succ, List.getElem_cons_zero]
        refine wpAnyH_take (i := 11) (v := ?_) rfl (by kernel_rfl) (by kernel_rfl) (by kernel_rfl) (fun _ _ _ h => h) (Or.inl ⟨by rfl, ?_⟩) (by assumption) ?_
        rotate_left
        · intro w hSw; (try dsimp only at hSw); (try simp only [List.getElem_toArray, List.getElem_cons_succ, List.getElem_cons_zero]); go_simp; try with_reducible rfl
        try simp only [Act.put, List.setIfInBounds_toArray, List.set_cons_zero, List.set_cons_succ, List.getElem_toArray, List.getElem_cons_succ, List.getElem_cons_zero]
        refine wpAnyH_take (i := 12) (v := ?_) rfl (by kernel_rfl) (by kernel_rfl) (by kernel_rfl) (fun _ _ _ h => h) (Or.inl ⟨by rfl, ?_⟩) (by assumption) ?_
        rotate_left
        · intro w hSw; (try dsimp only at hSw); (try simp only [List.getElem_toArray, List.getElem_cons_succ, List.getElem_cons_zero]); go_simp; try with_reducible rfl
        try simp only [Act.put, List.setIfInBounds_toArray, List.set_cons_zero, List.set_cons_succ, List.getElem_toArray, List.getElem_cons_succ, List.getElem_cons_zero]
        refine wpAnyH_take (i := 13) (v := ?_) rfl (by kernel_rfl) (by kernel_rfl) (by kernel_rfl) (fun _ _ _ h => h) (Or.inl ⟨by rfl, ?_⟩) (by assumption) ?_
        rotate_left
        · intro w hSw; (try dsimp only at hSw); (try simp only [List.getElem_toArray, List.getElem_cons_succ, List.getElem_cons_zero]); go_simp; try with_reducible rfl
        try simp only [Act.put, List.setIfInBounds_toArray, List.set_cons_zero, List.set_cons_succ, List.getElem_toArray, List.getElem_cons_succ, List.getElem_cons_zero]
        refine wpAnyH_take (i := 14) (v := ?_) rfl (by kernel_rfl) (by kernel_rfl) (by kernel_rfl) (fun _ _ _ h => h) (Or.inl ⟨by rfl, ?_⟩) (by assumption) ?_
        rotate_left
        · intro w hSw; (try dsimp only at hSw); (try simp only [List.getElem_toArray, List.getElem_cons_succ, List.getElem_cons_zero]); go_simp; try with_reducible rfl
        try simp only [Act.put, List.setIfInBounds_toArray, List.set_cons_zero, List.set_cons_succ, List.getElem_toArray, List.getElem_cons_succ, List.getElem_cons_zero]
        refine wpAnyH_take (i := 15) (v := undef) rfl (by kernel_rfl) (by kernel_rfl) (by kernel_rfl) (fun _ _ _ h => h) (Or.inr ⟨by rfl, rfl⟩) (by assumption) ?_
        try simp only [Act.put, List.setIfInBounds_toArray, List.set_cons_zero, List.set_cons_succ, List.getElem_toArray, List.getElem_cons_succ, List.getElem_cons_zero]
        refine wpAnyH_take (i := 16) (v := undef) rfl (by kernel_rfl) (by kernel_rfl) (by kernel_rfl) (fun _ _ _ h => h) (Or.inr ⟨by rfl, rfl⟩) (by assumption) ?_
        try simp only [Act.put, List.setIfInBounds_toArray, List.set_cons_zero, List.set_cons_succ, List.getElem_toArray, List.getElem_cons_succ, List.getElem_cons_zero]
        refine wpAnyH_take (i := 17) (v := undef) rfl (by kernel_rfl) (by kernel_rfl) (by kernel_rfl) (fun _ _ _ h => h) (Or.inr ⟨by rfl, rfl⟩) (by assumption) ?_
        try simp only [Act.put, List.setIfInBounds_toArray, List.set_cons_zero, List.set_cons_succ, List.getElem_toArray, List.getElem_cons_succ, List.getElem_cons_zero]
        refine wpAnyH_take (i := 18) (v := undef) rfl (by kernel_rfl) (by kernel_rfl) (by kernel_rfl) (fun _ _ _ h => h) (Or.inr ⟨by rfl, rfl⟩) (by assumption) ?_
        try simp only [Act.put, List.setIfInBounds_toArray, List.set_cons_zero, List.set_cons_succ, List.getElem_toArray, List.getElem_cons_succ, List.getElem_cons_zero]
        refine wpAnyH_take (i := 19) (v := undef) rfl (by kernel_rfl) (by kernel_rfl) (by kernel_rfl) (fun _ _ _ h => h) (Or.inr ⟨by rfl, rfl⟩) (by assumption) ?_
        try simp only [Act.put, List.setIfInBounds_toArray, List.set_cons_zero, List.set_cons_succ, List.getElem_toArray, List.getElem_cons_succ, List.getElem_cons_zero]
        refine wpAnyH_take (i := 20) (v := undef) rfl (by kernel_rfl) (by kernel_rfl) (by kernel_rfl) (fun _ _ _ h => h) (Or.inr ⟨by rfl, rfl⟩) (by assumption) ?_
        try simp only [Act.put, List.setIfInBounds_toArray, List.set_cons_zero, List.set_cons_succ, List.getElem_toArray, List.getElem_cons_succ, List.getElem_cons_zero]
        refine wpAnyH_take (i := 21) (v := undef) rfl (by kernel_rfl) (by kernel_rfl) (by kernel_rfl) (fun _ _ _ h => h) (Or.inr ⟨by rfl, rfl⟩) (by assumption) ?_
        try simp only [Act.put, List.setIfInBounds_toArray, List.set_cons_zero, List.set_cons_succ, List.getElem_toArray, List.getElem_cons_succ, List.getElem_cons_zero]
        refine wpAnyH_take (i := 22) (v := undef) rfl (by kernel_rfl) (by kernel_rfl) (by kernel_rfl) (fun _ _ _ h => h) (Or.inr ⟨by rfl, rfl⟩) (by assumption) ?_
        try simp only [Act.put, List.setIfInBounds_toArray, List.set_cons_zero, List.set_cons_succ, List.getElem_toArray, List.getElem_cons_succ, List.getElem_cons_zero]
        refine wpAnyH_take (i := 23) (v := undef) rfl (by kernel_rfl) (by kernel_rfl) (by kernel_rfl) (fun _ _ _ h => h) (Or.inr ⟨by rfl, rfl⟩) (by assumption) ?_
        try simp only [Act.put, List.setIfInBounds_toArray, List.set_cons_zero, List.set_cons_succ, List.getElem_toArray, List.getElem_cons_succ, List.getElem_cons_zero]
        refine wpAnyH_take (i := 24) (v := undef) rfl (by kernel_rfl) (by kernel_rfl) (by kernel_rfl) (fun _ _ _ h => h) (Or.inr ⟨by rfl, rfl⟩) (by assumption) ?_
        try simp only [Act.put, List.setIfInBounds_toArray, List.set_cons_zero, List.set_cons_succ, List.getElem_toArray, List.getElem_cons_succ, List.getElem_cons_zero]
        refine wpAnyH_take (i := 25) (v := undef) rfl (by kernel_rfl) (by kernel_rfl) (by kernel_rfl) (fun _ _ _ h => h) (Or.inr ⟨by rfl, rfl⟩) (by assumption) ?_
        try simp only [Act.put, List.setIfInBounds_toArray, List.set_cons_zero, List.set_cons_succ, List.getElem_toArray, List.getElem_cons_succ, List.getElem_cons_zero]
        refine wpAnyH_take (i := 26) (v := ?_) rfl (by kernel_rfl) (by kernel_rfl) (by kernel_rfl) (fun _ _ _ h => h) (Or.inl ⟨by rfl, ?_⟩) (by assumption) ?_
        rotate_left
        · intro w hSw; (try dsimp only at hSw); (try simp only [List.getElem_toArray, List.getElem_cons_succ, List.getElem_cons_zero]); go_simp; try with_reducible rfl
        try simp only [Act.put, List.setIfInBounds_toArray, List.set_cons_zero, List.set_cons_succ, List.getElem_toArray, List.getElem_cons_succ, List.getElem_cons_zero]
        refine wpAnyH_take (i := 27) (v := ?_) rfl (by kernel_rfl) (by kernel_rfl) (by kernel_rfl) (fun _ _ _ h => h) (Or.inl ⟨by rfl, ?_⟩) (by assumption) ?_
        rotate_left
        · intro w hSw; (try dsimp only at hSw); (try simp only [List.getElem_toArray, List.getElem_cons_succ, List.getElem_cons_zero]); go_simp; try with_reducible rfl
        try simp only [Act.put, List.setIfInBounds_toArray, List.set_cons_zero, List.set_cons_succ, List.getElem_toArray, List.getElem_cons_succ, List.getElem_cons_zero]
        refine wpAnyH_done (by kernel_rfl) ?_ _
        have hx := hid (Hp.out.then_ (Pure.then_ Hpd.out (hS2.out w8 (by assumption))))
        clear hst hS hS2 hp7 hp8
        go_wp2
        go_roundw
        case rel => exact ⟨k + 1, by omega, by go_num, HN.out, hx.out⟩
        case measure => simp [RowKit.intOf]; omega
    · obtain rfl : k = M.length := by omega
      have hlt' : ¬ (M.length : Int) < (M.length : Int) := by omega
      have HE := hid (Hgood.out HcX.out Hal.out)
      clear hp
      go_wp2
      go_ret
      exact ⟨by rw [HE.out]; rfl, Hpz.out.then_ Hp.out⟩
end Go.Proofs.YtbcbmnifbflmaaaGreat

