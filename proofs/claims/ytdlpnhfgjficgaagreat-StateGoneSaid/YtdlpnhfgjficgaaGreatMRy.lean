/- ctx.Read. bag.may, bag.Check of any bag. bag.Read. -/
import Derived.Test.YtdlpnhfgjficgaaGreatMRg
import Derived.Test.YtdlpnhfgjficgaaGreatMBs
import Derived.Test.YtdlpnhfgjficgaaGreatMBg
namespace Go.Proofs.YtdlpnhfgjficgaaGreat
open Go.RowKit Go.Maps Go.Shelf Go.Sort

def RdCtxP (T : TypeId) (b : Nat) (X : List Dot × List Dot) (s : RS) (w : World) (e : Ending) (w' : World) : Prop := ∃ v0 v1, e = .returned (.agg #[v0, v1]) ∧ CR v0 v1 X w' ∧ (∀ k, v0.rb = some k → w.heap.size ≤ k) ∧ (∀ k, v1.rb = some k → w.heap.size ≤ k) ∧ RdAt T b s w' ∧ Kept (fun k => k = b) w w'
theorem Dots.kept {S : Nat → Prop} {w w' : World} {v : Value} {l : List Dot} (h : Dots w v l) (hk : Kept S w w') (hS : ∀ k, v.rb = some k → ¬ S k) : Dots w' v l := Row.kept h hk hS
theorem kset (W : World) (n i : Nat) (v : Value) : Kept (fun k => k = n) W (W.setCell ⟨n, i, none⟩ v) := Kept.setCell (S := fun k => k = n) (Kept.refl _ _) (p := ⟨n, i, none⟩) (fun _ => rfl) v

set_option maxRecDepth 8000 in
set_option maxHeartbeats 4000000 in
theorem cread_any (b : Nat) (s : RS) (w : World) (h : RdAt 117 b s w) :
    Calls Tryz.prog 138 #[.pointer (some ⟨b, 0, none⟩)] w (RdCtxP 117 b (rdCtx s).1 (rdCtx s).2 w) := by
  have hb := h.lt
  have Hb := hid hb
  have hrow := hid (fun s W (hW : RdAt 117 b s W) => dreadrow_any b s 1000 W hW (by decide) (by decide))
  have hfine := hid (fun s W (hW : RdAt 117 b s W) => fine_any b s W hW)
  have hneg := hid (fun s W (hW : RdAt 117 b s W) => (show Calls _ _ _ _ _ from by have := mintr_any b s (-1) W hW (by decide) (by decide); rw [rdInt_neg (-1) (by decide)] at this; exact this))
  have hchk := hid (fun vb vc B C W h1 h2 l1 l2 => checkb_any vb vc B C W h1 h2 l1 l2)
  unfold cv at hchk
  unfold RdP at hneg
  unfold RdRowP at hrow
  have Hd : Hid (rdCtx s = match rdRow 1000 (rdRow 1000 s).2 with
    | (_, none) => (([], []), none)
    | (C, some r) => if cchk (rdRow 1000 s).1 C then (((rdRow 1000 s).1, C), some r) else (([], []), none)) := (show _ = _ from rfl)
  have hl1 := rdRow_len s
  have hl2 := rdRow_len (rdRow 1000 s).2
  have hi1 := hid (hrow.out s)
  have hi2 := hid (hrow.out (rdRow 1000 s).2)
  generalize rdCtx s = R at *
  generalize rdRow 1000 (rdRow 1000 s).2 = N2 at *
  generalize rdRow 1000 s = N1 at *
  obtain ⟨B, s1⟩ := N1
  obtain ⟨C, s2⟩ := N2
  dsimp only at hi1 hi2 Hd hl1 hl2
  clear hrow
  obtain ⟨wz, hwz⟩ : ∃ wz, wz = w.alloc (.cells #[.slice none 0 0, .slice none 0 0] 32) := ⟨_, rfl⟩
  have Hz := hid (show RdK 117 b s w wz from by rw [hwz]; exact (RdK.start h).alloc _)
  have Bz := hid (show wz.heap[w.heap.size]? = some (.cells #[.slice none 0 0, .slice none 0 0] 32 (0, 0)) from by rw [hwz]; exact block_alloc_new _ _)
  have Sz := hid (show wz.heap.size = w.heap.size + 1 from by rw [hwz]; simp)
  clear h
  go_enter Tryz.func138, Tryz.ntmps138
  go_wp2_with fail
  rw [← hwz]
  clear hwz
  refine (hi1.out wz Hz.out.r).mono ?_
  rintro e w1 ⟨u0, rfl, hd1, hf1, hr1, hk1⟩
  obtain ⟨a0, c0, rfl⟩ := hd1.shape
  have Z1 := hid (block_kept Bz.out hk1 (by omega))
  have hlt1 := hid (show w.heap.size + 1 ≤ w1.heap.size from by have := hk1.size; have := Sz.out; omega)
  have hf1' := hid (show ∀ k, (Value.slice a0 B.length c0).rb = some k → w.heap.size < k ∧ k < w1.heap.size from fun k hk => by have := hf1 k hk; have := Sz.out; have := Row.lt hd1 k hk; omega)
  obtain ⟨v1, hv1⟩ : ∃ v1, v1 = w1.alloc (.cells #[.slice a0 B.length c0, .slice none 0 0] 32) := ⟨_, rfl⟩
  have H1 := hid (show RdK 117 b s1 w v1 from by rw [hv1]; exact (Hz.out.next hr1 hk1).alloc _)
  have D1 := hid (show Dots v1 (.slice a0 B.length c0) B from by rw [hv1]; exact Row.pure hd1 ((Below.refl _ _).alloc (Nat.le_refl _) _))
  have Y1 := hid (show v1.heap[w1.heap.size]? = some (.cells #[.slice a0 B.length c0, .slice none 0 0] 32 (0, 0)) from by rw [hv1]; exact block_alloc_new _ _)
  have Q1 := hid (show v1.heap[w.heap.size]? = some (.cells #[.slice none 0 0, .slice none 0 0] 32 (0, 0)) from by rw [hv1]; exact block_alloc_old Z1.out _)
  have S1 := hid (show v1.heap.size = w1.heap.size + 1 from by rw [hv1]; simp)
  clear hr1 hk1 Z1 Bz Hz hi1 hd1 hf1
  go_wp2_with fail
  rw [← hv1]
  clear hv1
  generalize w1.heap.size = n at *
  refine (hi2.out v1 H1.out.r).mono ?_
  rintro e w2 ⟨u1, rfl, hd2, hf2, hr2, hk2⟩
  obtain ⟨a1, c1, rfl⟩ := hd2.shape
  have hf2' := hid (show ∀ k, (Value.slice a1 C.length c1).rb = some k → n < k from fun k hk => by have := hf2 k hk; have := S1.out; omega)
  have Y2 := block_kept Y1.out hk2 (by have := hlt1.out; omega)
  have Q2 := block_kept Q1.out hk2 (by omega)
  have H2 := hid (H1.out.next hr2 hk2)
  have D2 := hid (Dots.kept D1.out hk2 (fun k hk e => by have := (hf1'.out k hk).1; omega))
  have q1 := cell_of_block Y2 1
  have f1 := free_of_block Y2 1
  simp at q1
  obtain ⟨v2, hv2⟩ : ∃ v2, v2 = w2.setCell ⟨n, 1, none⟩ (.slice a1 C.length c1) := ⟨_, rfl⟩
  have K2 := hid (show Kept (fun k => k = n) w2 v2 from by rw [hv2]; exact kset _ _ _ _)
  have D3 := hid (show CR (.slice a0 B.length c0) (.slice a1 C.length c1) (B, C) v2 from ⟨Dots.kept D2.out K2.out (fun k hk e => by have := (hf1'.out k hk).2; omega), Dots.kept hd2 K2.out (fun k hk e => by have := hf2'.out k hk; omega)⟩)
  have Y3 := hid (show v2.heap[n]? = some (.cells #[.slice a0 B.length c0, .slice a1 C.length c1] 32 (0, 0)) from by rw [hv2]; have := block_setCell Y2 1 (.slice a1 C.length c1); simpa using this)
  have Q3 := hid (show v2.heap[w.heap.size]? = some (.cells #[.slice none 0 0, .slice none 0 0] 32 (0, 0)) from by rw [hv2]; exact block_setCell_other Q2 _ (by show ¬ n = _; have := hlt1.out; omega) _)
  have H3 := hid (show RdK 117 b s2 w v2 from by rw [hv2]; exact H2.out.set (by have := hlt1.out; omega) (by have := hlt1.out; omega) _)
  clear hr2 hk2 Y1 Q1 H1 H2 hi2 Y2 Q2 hd2 hf2 D2 D1 K2
  go_wp2_with fail
  rw [← hv2]
  clear hv2 q1 f1
  refine (hfine.out s2 v2 H3.out.r).mono ?_
  rintro e w3 ⟨rfl, hp3⟩
  have H4 := hid (H3.out.pure hp3)
  have Y4 := (hp3.block _ (lt_of_block Y3.out)).trans Y3.out
  have Q4 := (hp3.block _ (lt_of_block Q3.out)).trans Q3.out
  have D4 := hid (D3.out.pure hp3)
  have HY4 := hid Y4
  have HQ4 := hid Q4
  have y0 := cell_of_block Y4 0
  have y1 := cell_of_block Y4 1
  have hnb := hid (show n ≠ b ∧ w.heap.size < n from by have := hlt1.out; omega)
  simp at y0 y1
  clear hp3 Y4 Q4 H3 Y3 Q3 D3
  cases s2 with
  | none =>
    have HR := hid (show R = (([], []), none) from Hd.out)
    go_wp2_with fail
    refine (hneg.out none w3 H4.out.r).mono ?_
    rintro e w4 ⟨rfl, hr4, hk4⟩
    have H5 := hid (H4.out.next hr4 hk4)
    have Q5 := block_kept HQ4.out hk4 (by omega)
    have a0 := cell_of_block Q5 0
    have a1 := cell_of_block Q5 1
    have a2 := free_of_block Q5 0
    have a3 := free_of_block Q5 1
    simp at a0 a1
    have Hset := hid (show RdK 117 b none w ((w4.setCell ⟨w.heap.size, 0, none⟩ (.slice none 0 0)).setCell ⟨w.heap.size, 1, none⟩ (.slice none 0 0)) from (H5.out.set (Nat.le_refl _) (by omega) _).set (Nat.le_refl _) (by omega) _)
    have Bset := hid (block_setCell (block_setCell Q5 0 (.slice none 0 0)) 1 (.slice none 0 0))
    clear hr4 hk4 Q5
    go_wp2
    exact bodyPost_ret (v := .agg #[.slice none 0 0, .slice none 0 0]) (by simp [results, Tryz.results138, go_sem, cell_of_block Bset.out 0, cell_of_block Bset.out 1]) rfl ⟨_, _, rfl, by rw [HR.out]; exact ⟨Row.nil _ _, Row.nil _ _⟩, fun k hk => by simp [Value.rb] at hk, fun k hk => by simp [Value.rb] at hk, by rw [HR.out]; exact Hset.out.r, Hset.out.k⟩
  | some r =>
    have Hd2 := hid (show R = if cchk B C then ((B, C), some r) else (([], []), none) from Hd.out)
    go_wp2_with fail
    refine (hchk.out _ _ B C w3 D4.out.1 D4.out.2 (by omega) (by omega)).mono ?_
    rintro e w4 ⟨rfl, hp4⟩
    have H5 := hid (H4.out.pure hp4)
    have Y5 := (hp4.block _ (lt_of_block HY4.out)).trans HY4.out
    have Q5 := (hp4.block _ (lt_of_block HQ4.out)).trans HQ4.out
    have D5 := hid (D4.out.pure hp4)
    unfold errOf
    cases hc : cchk B C with
    | false =>
      have HR := hid (show R = (([], []), none) from by rw [Hd2.out, hc]; rfl)
      have HQ5 := hid Q5
      clear hp4 y0 y1 hc Y5 Q5
      go_wp2_with fail
      refine (hneg.out _ w4 H5.out.r).mono ?_
      rintro e w5 ⟨rfl, hr5, hk5⟩
      have H6 := hid (H5.out.next hr5 hk5)
      have Q6 := block_kept HQ5.out hk5 (by omega)
      have a0 := cell_of_block Q6 0
      have a1 := cell_of_block Q6 1
      have a2 := free_of_block Q6 0
      have a3 := free_of_block Q6 1
      simp at a0 a1
      have Hset := hid (show RdK 117 b none w ((w5.setCell ⟨w.heap.size, 0, none⟩ (.slice none 0 0)).setCell ⟨w.heap.size, 1, none⟩ (.slice none 0 0)) from (H6.out.set (Nat.le_refl _) (by omega) _).set (Nat.le_refl _) (by omega) _)
      have Bset := hid (block_setCell (block_setCell Q6 0 (.slice none 0 0)) 1 (.slice none 0 0))
      clear hr5 hk5 Q6
      go_wp2
      exact bodyPost_ret (v := .agg #[.slice none 0 0, .slice none 0 0]) (by simp [results, Tryz.results138, go_sem, cell_of_block Bset.out 0, cell_of_block Bset.out 1]) rfl ⟨_, _, rfl, by rw [HR.out]; exact ⟨Row.nil _ _, Row.nil _ _⟩, fun k hk => by simp [Value.rb] at hk, fun k hk => by simp [Value.rb] at hk, by rw [HR.out]; exact Hset.out.r, Hset.out.k⟩
    | true =>
      have HR := hid (show R = ((B, C), some r) from by rw [Hd2.out, hc]; rfl)
      have e0 := cell_of_block Q5 0
      have e1 := cell_of_block Q5 1
      have e2 := free_of_block Q5 0
      have e3 := free_of_block Q5 1
      have z0 := cell_of_block Y5 0
      have z1 := cell_of_block Y5 1
      simp at e0 e1 z0 z1
      have Hset := hid (show RdK 117 b (some r) w ((w4.setCell ⟨w.heap.size, 0, none⟩ (.slice a0 B.length c0)).setCell ⟨w.heap.size, 1, none⟩ (.slice a1 C.length c1)) from (H5.out.set (Nat.le_refl _) (by omega) _).set (Nat.le_refl _) (by omega) _)
      have Kset := hid ((kset w4 w.heap.size 0 (.slice a0 B.length c0)).trans (kset _ w.heap.size 1 (.slice a1 C.length c1)))
      have Bset := hid (block_setCell (block_setCell Q5 0 (.slice a0 B.length c0)) 1 (.slice a1 C.length c1))
      have F0 := hid (show ∀ k, (Value.slice a0 B.length c0).rb = some k → w.heap.size < k from fun k hk => (hf1'.out k hk).1)
      have F1 := hid (show ∀ k, (Value.slice a1 C.length c1).rb = some k → w.heap.size < k from fun k hk => by have := hf2'.out k hk; have := hnb.out; omega)
      clear hp4 y0 y1 hc Y5 Q5
      go_wp2
      exact bodyPost_ret (v := .agg #[.slice a0 B.length c0, .slice a1 C.length c1]) (by simp [results, Tryz.results138, go_sem, cell_of_block Bset.out 0, cell_of_block Bset.out 1]) rfl ⟨_, _, rfl, by rw [HR.out]; exact ⟨Dots.kept D5.out.1 Kset.out (fun k hk e => by have := F0.out k hk; omega), Dots.kept D5.out.2 Kset.out (fun k hk e => by have := F1.out k hk; omega)⟩, fun k hk => Nat.le_of_lt (F0.out k hk), fun k hk => Nat.le_of_lt (F1.out k hk), by rw [HR.out]; exact Hset.out.r, Hset.out.k⟩
end Go.Proofs.YtdlpnhfgjficgaaGreat

namespace Go.Proofs.YtdlpnhfgjficgaaGreat
open Go.RowKit Go.Maps Go.Shelf Go.Sort

theorem mmay_parts (x y : Int) (q b : List UInt8) (c : Int) : mmay ((x, y), q, b, c) = (dchk (x, y) && (decide (q ≠ []) && decide (q.length ≤ 40) && decide (b.length ≤ 1000) && decide (0 ≤ c) && decide (c ≤ 1048576))) := by
  unfold mmay
  have : decide (1 ≤ q.length) = decide (q ≠ []) := by
    cases q <;> simp
  dsimp only
  rw [this]
  simp only [Bool.and_assoc]
theorem bs_eqnil (q : List UInt8) : ((bs q).toList = ([] : List UInt8)) = (q = []) := by rw [bs_list3]
set_option maxRecDepth 8000 in
set_option maxHeartbeats 4000000 in
theorem mmayg_any (m : Msg) (w : World) : Calls Tryz.prog 178 #[mv m] w fun e w' => e = .returned (.bool (mmay m)) ∧ Pure w w' := by
  obtain ⟨⟨x, y⟩, q, b, c⟩ := m
  obtain ⟨wz, hwz⟩ : ∃ wz, wz = w.alloc (.cells #[.int .i64 x, .int .i64 y, .string (bs q), .string (bs b), .int .i64 c] 43) := ⟨_, rfl⟩
  have Hp := hid (show Pure w wz from by rw [hwz]; exact (Below.refl _ _).alloc (Nat.le_refl _) _)
  have Hm := hid (show MX w.heap.size ((x, y), q, b, c) wz from by rw [hwz]; exact MX.made w ((x, y), q, b, c))
  have hc := hid (chk_any (x, y) wz)
  have HM := hid (mmay_parts x y q b c)
  have hqs := bs_size q
  have hbs := bs_size b
  unfold dv at hc
  dsimp only at hc
  unfold mv
  dsimp only
  generalize mmay ((x, y), q, b, c) = V at *
  generalize dchk (x, y) = D at *
  obtain ⟨x0, x1, x2, x3, x4⟩ := Hm.out.cells
  rw [hwz] at x0 x1 x2 x3 x4
  cases D with
  | false =>
    have HV := hid (show V = false from by rw [HM.out]; rfl)
    go_enter Tryz.func178, Tryz.ntmps178
    go_wp2_with fail
    rw [← hwz]
    clear hwz x0 x1 x2 x3 x4
    refine hc.out.mono ?_
    rintro e w1 ⟨rfl, hp1⟩
    have Hp1 := hid (Hp.out.then_ hp1)
    clear hp1
    go_wp2
    go_ret
    exact ⟨by rw [HV.out]; rfl, Hp1.out⟩
  | true =>
    have HM2 := hid (show V = (decide (q ≠ []) && decide (q.length ≤ 40) && decide (b.length ≤ 1000) && decide (0 ≤ c) && decide (c ≤ 1048576)) from by rw [HM.out]; rfl)
    have hen := bs_eqnil q
    have key : (q = [] ∧ V = false) ∨ (q ≠ [] ∧ ¬ (q.length : Int) ≤ 40 ∧ V = false) ∨ (q ≠ [] ∧ (q.length : Int) ≤ 40 ∧ ¬ (b.length : Int) ≤ 1000 ∧ V = false) ∨ (q ≠ [] ∧ (q.length : Int) ≤ 40 ∧ (b.length : Int) ≤ 1000 ∧ ¬ (0 : Int) ≤ c ∧ V = false) ∨ (q ≠ [] ∧ (q.length : Int) ≤ 40 ∧ (b.length : Int) ≤ 1000 ∧ (0 : Int) ≤ c ∧ ¬ c ≤ 1048576 ∧ V = false) ∨ (q ≠ [] ∧ (q.length : Int) ≤ 40 ∧ (b.length : Int) ≤ 1000 ∧ (0 : Int) ≤ c ∧ c ≤ 1048576 ∧ V = true) := by
      rw [HM2.out]
      by_cases h1 : q = []
      · exact .inl ⟨h1, by simp [h1]⟩
      by_cases h2 : (q.length : Int) ≤ 40
      · by_cases h3 : (b.length : Int) ≤ 1000
        · by_cases h4 : 0 ≤ c
          · by_cases h5 : c ≤ 1048576
            · exact .inr (.inr (.inr (.inr (.inr ⟨h1, h2, h3, h4, h5, by simp [h1, h4, h5]; omega⟩))))
            · exact .inr (.inr (.inr (.inr (.inl ⟨h1, h2, h3, h4, h5, by simp [h5]⟩))))
          · exact .inr (.inr (.inr (.inl ⟨h1, h2, h3, h4, by simp [h4]⟩)))
        · exact .inr (.inr (.inl ⟨h1, h2, h3, by simp [show ¬ b.length ≤ 1000 by omega]⟩))
      · exact .inr (.inl ⟨h1, h2, by simp [show ¬ q.length ≤ 40 by omega]⟩)
    rcases key with ⟨h1, hV⟩ | ⟨h1, h2, hV⟩ | ⟨h1, h2, h3, hV⟩ | ⟨h1, h2, h3, h4, hV⟩ | ⟨h1, h2, h3, h4, h5, hV⟩ | ⟨h1, h2, h3, h4, h5, hV⟩
    all_goals
      have HV := hid hV
      have hemp : (bs q).toList.isEmpty = q.isEmpty := by rw [bs_list3]
      first
        | (subst h1; simp only [List.isEmpty_nil] at hemp)
        | (have hq : q.isEmpty = false := by (cases q; exact absurd rfl h1; rfl)
           rw [hq] at hemp)
      clear hV
      go_enter Tryz.func178, Tryz.ntmps178
      go_wp2_with fail
      rw [← hwz]
      clear hwz x0 x1 x2 x3 x4
      refine hc.out.mono ?_
      rintro e w1 ⟨rfl, hp1⟩
      obtain ⟨x0, x1, x2, x3, x4⟩ := (Hm.out.pure hp1).cells
      have Hp1 := hid (Hp.out.then_ hp1)
      clear hp1
      go_wp2
      go_ret
      exact ⟨by rw [HV.out]; first | rfl | simp [h5], Hp1.out⟩

set_option maxRecDepth 8000 in
set_option maxHeartbeats 4000000 in
theorem bcheck_any5 (v0 v1 v2 : Value) (g : Bag) (w : World) (hr : BR3 v0 v1 v2 g w) (hl0 : g.1.length ≤ 100000) (hl1 : g.2.1.length ≤ 100000) (hl2 : g.2.2.length ≤ 100000) :
    Calls Tryz.prog 141 #[.agg #[v0, v1, v2]] w fun e w' => e = .returned (.int .i64 (errOf (bchk g))) ∧ Pure w w' := by
  obtain ⟨M, B, C⟩ := g
  obtain ⟨h0, h1, h2⟩ := hr
  dsimp only at h0 h1 h2 hl0 hl1 hl2
  obtain ⟨a0, c0, rfl⟩ := h0.shape
  obtain ⟨wz, hwz⟩ : ∃ wz, wz = w.alloc (.cells #[.slice a0 M.length c0, v1, v2] 34) := ⟨_, rfl⟩
  have Hpz := hid (show Pure w wz from by rw [hwz]; exact (Below.refl _ _).alloc (Nat.le_refl _) _)
  have hbk : Hid (wz.heap[w.heap.size]? = some (.cells #[.slice a0 M.length c0, v1, v2] 34 (0, 0))) := by
    show wz.heap[w.heap.size]? = _
    rw [hwz]
    exact block_alloc_new _ _
  have hC : Hid (∀ W, Pure wz W → (W.cell? ⟨w.heap.size, 0, none⟩ = some (.slice a0 M.length c0) ∧ W.cell? ⟨w.heap.size, 1, none⟩ = some v1 ∧ W.cell? ⟨w.heap.size, 2, none⟩ = some v2)) := fun W hW => by
    have e0 := (hW.block _ (lt_of_block hbk.out)).trans hbk.out
    exact ⟨cell_of_block e0 0, cell_of_block e0 1, cell_of_block e0 2⟩
  have HM := hid (fun W (hW : Pure wz W) => (Row.pure h0 (Hpz.out.then_ hW) : Msgs W (.slice a0 M.length c0) M))
  have HX := hid (fun W (hW : Pure wz W) => (show Dots W v1 B ∧ Dots W v2 C from ⟨Row.pure h1 (Hpz.out.then_ hW), Row.pure h2 (Hpz.out.then_ hW)⟩))
  have hcc := hid (fun W (hW : Pure wz W) => checkb_any v1 v2 B C W (HX.out W hW).1 (HX.out W hW).2 hl1 hl2)
  have hmay := hid (fun m W => mmayg_any m W)
  have hless := hid (fun x y W => less_any x y W)
  have hhas := hid (fun (hok : COk B C) d W (hW : Pure wz W) => has_any v1 v2 B C d W (HX.out W hW).1 (HX.out W hW).2 (br_rise hok.br) hok.cr (fun d hd => by have := hok.bok d hd; unfold dok at this; omega) hl1 hl2)
  have Hbad := hid (show (cchk B C = false ∨ allB M.length (bat (M, B, C)) = false) → errOf (bchk (M, B, C)) = 1 from fun h => by
    unfold bchk
    dsimp only
    rcases h with h | h <;> rw [h] <;> simp [errOf])
  have Hgood := hid (show cchk B C = true → allB M.length (bat (M, B, C)) = true → errOf (bchk (M, B, C)) = 0 from fun h1 h2 => by
    unfold bchk
    dsimp only
    rw [h1, h2]; rfl)
  generalize errOf (bchk (M, B, C)) = E at *
  obtain ⟨g0, g1, g2⟩ := hC.out wz (Below.refl _ _)
  clear h0 h1 h2 hl1 hl2
  unfold dv cv at *
  unfold mv at hmay
  unfold errOf at hcc
  cases hcX : cchk B C with
  | false =>
    have HE := hid (Hbad.out (.inl hcX))
    rw [hcX] at hcc
    clear hcX
    go_enter Tryz.func141, Tryz.ntmps141
    go_wp2_with fail
    rw [← hwz]
    clear hwz
    refine (hcc.out wz (Below.refl _ _)).mono ?_
    rintro e w1 ⟨rfl, hp1⟩
    have hx := hid hp1
    clear hp1
    go_wp2
    go_ret
    exact ⟨by rw [HE.out]; rfl, Hpz.out.then_ hx.out⟩
  | true =>
  rw [hcX] at hcc
  have HcX := hid hcX
  have hhas := hid (hhas.out (cchk_iff.1 hcX))
  clear hcX
  go_enter Tryz.func141, Tryz.ntmps141
  go_wp2_with fail
  rw [← hwz]
  clear hwz
  refine (hcc.out wz (Below.refl _ _)).mono ?_
  rintro e w1 ⟨rfl, hp1⟩
  have Hp1 := hid hp1
  obtain ⟨g0, g1, g2⟩ := hC.out w1 hp1
  clear hp1
  go_wp2_with fail
  go_loopw [12] (fun i wr => ∃ k : Nat, k ≤ M.length ∧ i = .int .i64 k ∧ allB k (bat (M, B, C)) = true ∧ Pure wz wr) (fun i _ => M.length - (RowKit.intOf i).toNat)
  case atStart => exact ⟨0, Nat.zero_le _, rfl, rfl, Hp1.out⟩
  case round =>
    obtain ⟨k, hk, rfl, hal, hp⟩ := hrel
    have Hp := hid hp
    have Hal := hid hal
    clear hal
    by_cases hlt : k < M.length
    · have hlt' : (k : Int) < (M.length : Int) := by omega
      have Hrow := hid (HM.out wr hp)
      obtain ⟨b, off, rfl, hb, x0, x1, x2, x3, x4⟩ := Msgs.get Hrow.out hlt
      have hbat := hid (show bat (M, B, C) k = (mmay (M.getD k m0) && chas B C (M.getD k m0).1 && (decide (k = 0) || dlt (M.getD (k - 1) m0).1 (M.getD k m0).1)) from rfl)
      have hNo := hid (fun (e : bat (M, B, C) k = false) => Hbad.out (.inr (allB_false hlt e)))
      have hYes := hid (fun (e : bat (M, B, C) k = true) => allB_next Hal.out e)
      generalize bat (M, B, C) k = V at *
      generalize hgk : M.getD k m0 = z at *
      obtain ⟨⟨z1, z2⟩, zq, zb, zc⟩ := z
      dsimp only at x0 x1 x2 x3 x4 hbat
      obtain ⟨Wd, hWd⟩ : ∃ Wd, Wd = wr.alloc (.cells #[.int .i64 z1, .int .i64 z2, .string (bs zq), .string (bs zb), .int .i64 zc] 43) := ⟨_, rfl⟩
      have hpd : Pure wr Wd := by rw [hWd]; exact (Below.refl _ _).alloc (Nat.le_refl _) _
      have hbd : Wd.heap[wr.heap.size]? = some (.cells #[.int .i64 z1, .int .i64 z2, .string (bs zq), .string (bs zb), .int .i64 zc] 43 (0, 0)) := by rw [hWd]; exact block_alloc_new _ _
      have hmy := hid (fun W => hmay.out ((z1, z2), zq, zb, zc) W)
      have hhs := hid (fun W (hW : Pure wz W) => hhas.out (z1, z2) W hW)
      dsimp only at hmy hhs
      clear hgk
      generalize mmay ((z1, z2), zq, zb, zc) = D1 at *
      generalize chas B C (z1, z2) = D2 at *
      cases D1 with
      | false =>
        have HE := hid (hNo.out (by rw [hbat.out]; rfl))
        have hS : Hid (∀ W, Pure Wd W → (W.cell? ⟨wr.heap.size, 0, none⟩ = some (.int .i64 z1) ∧ W.cell? ⟨wr.heap.size, 1, none⟩ = some (.int .i64 z2) ∧ W.cell? ⟨wr.heap.size, 2, none⟩ = some (.string (bs zq)) ∧ W.cell? ⟨wr.heap.size, 3, none⟩ = some (.string (bs zb)) ∧ W.cell? ⟨wr.heap.size, 4, none⟩ = some (.int .i64 zc) ∧ W.cell? ⟨w.heap.size, 0, none⟩ = some (.slice (some ⟨b, off, none⟩) M.length c0) ∧ W.cell? ⟨w.heap.size, 1, none⟩ = some v1 ∧ W.cell? ⟨w.heap.size, 2, none⟩ = some v2 ∧ Pure Wd W)) := fun W hW => by
          have hwb := Pure.then_ hpd hW
          have ed := (hW.block _ (lt_of_block hbd)).trans hbd
          obtain ⟨g0, g1, g2⟩ := hC.out W (hp.then_ hwb)
          exact ⟨cell_of_block ed 0, cell_of_block ed 1, cell_of_block ed 2, cell_of_block ed 3, cell_of_block ed 4, g0, g1, g2, hW⟩
        have hst := hid (hS.out Wd.drew (Below.refl _ _).drew)
        have hS2 : Hid (∀ W : World, (W.cell? ⟨wr.heap.size, 0, none⟩ = some (.int .i64 z1) ∧ W.cell? ⟨wr.heap.size, 1, none⟩ = some (.int .i64 z2) ∧ W.cell? ⟨wr.heap.size, 2, none⟩ = some (.string (bs zq)) ∧ W.cell? ⟨wr.heap.size, 3, none⟩ = some (.string (bs zb)) ∧ W.cell? ⟨wr.heap.size, 4, none⟩ = some (.int .i64 zc) ∧ W.cell? ⟨w.heap.size, 0, none⟩ = some (.slice (some ⟨b, off, none⟩) M.length c0) ∧ W.cell? ⟨w.heap.size, 1, none⟩ = some v1 ∧ W.cell? ⟨w.heap.size, 2, none⟩ = some v2 ∧ Pure Wd W) → Pure Wd W) := fun W h => h.2.2.2.2.2.2.2.2
        have Hpd := hid hpd
        have Hwd := hid (hp.then_ hpd)
        clear hp hb hbd hpd
        go_wp2_with fail
        rw [← hWd]
        clear hWd x0 x1 x2 x3 x4
        refine wp_region_held_drew (S := (fun W => W.cell? ⟨wr.heap.size, 0, none⟩ = some (.int .i64 z1) ∧ W.cell? ⟨wr.heap.size, 1, none⟩ = some (.int .i64 z2) ∧ W.cell? ⟨wr.heap.size, 2, none⟩ = some (.string (bs zq)) ∧ W.cell? ⟨wr.heap.size, 3, none⟩ = some (.string (bs zb)) ∧ W.cell? ⟨wr.heap.size, 4, none⟩ = some (.int .i64 zc) ∧ W.cell? ⟨w.heap.size, 0, none⟩ = some (.slice (some ⟨b, off, none⟩) M.length c0) ∧ W.cell? ⟨w.heap.size, 1, none⟩ = some v1 ∧ W.cell? ⟨w.heap.size, 2, none⟩ = some v2 ∧ Pure Wd W)) (by kernel_rfl) ?_ (fun hHeld => ?_)
        · first | assumption | with_reducible exact hst.out | with_reducible exact hS.out _ (Pure.then_ (hS2.out _ (by assumption)) (by assumption))
        refine tkA 0 ?_
        refine wpAnyH_ready (rs := [1]) (by kernel_rfl) (by simp) ?_
        refine AllReadyH.cons rfl (fun K hK => ?_) AllReadyH.nil
        (try simp only [List.getElem_toArray, List.getElem_cons_succ, List.getElem_cons_zero])
        go_simp
        go_at_call 178; (with_reducible refine (hmy.out _).mono ?_); rintro e w7 ⟨rfl, hp7⟩; go_wp2_with fail
        refine hK.out _ _ ?_ (fun hHeld => ?_)
        · first | assumption | with_reducible exact hst.out | with_reducible exact hS.out _ (Pure.then_ (hS2.out _ (by assumption)) (by assumption))
        clear hK K
        try simp only [Act.put, List.setIfInBounds_toArray, List.set_cons_zero, List.set_cons_succ, List.getElem_toArray, List.getElem_cons_succ, List.getElem_cons_zero]
        refine tkA 2 ?_
        refine tkA 3 ?_
        refine tkU 4 ?_
        refine tkU 5 ?_
        refine tkU 6 ?_
        refine tkU 7 ?_
        refine tkU 8 ?_
        refine tkU 9 ?_
        refine tkA 10 ?_
        refine tkA 11 ?_
        refine tkU 12 ?_
        refine tkU 13 ?_
        refine tkU 14 ?_
        refine tkU 15 ?_
        refine tkU 16 ?_
        refine tkU 17 ?_
        refine tkU 18 ?_
        refine tkU 19 ?_
        refine tkU 20 ?_
        refine tkU 21 ?_
        refine tkU 22 ?_
        refine tkU 23 ?_
        refine tkU 24 ?_
        refine tkU 25 ?_
        refine tkU 26 ?_
        refine tkA 27 ?_
        refine wpAnyH_done (by kernel_rfl) ?_ _
        have hx := hid (Hp.out.then_ (Pure.then_ Hpd.out (hS2.out w7 (by assumption))))
        clear hst hS hS2 hp7
        go_wp2
        go_ret
        exact ⟨by rw [HE.out]; rfl, Hpz.out.then_ hx.out⟩
      | true =>
      cases D2 with
      | false =>
        have HE := hid (hNo.out (by rw [hbat.out]; rfl))
        have hS : Hid (∀ W, Pure Wd W → (W.cell? ⟨wr.heap.size, 0, none⟩ = some (.int .i64 z1) ∧ W.cell? ⟨wr.heap.size, 1, none⟩ = some (.int .i64 z2) ∧ W.cell? ⟨wr.heap.size, 2, none⟩ = some (.string (bs zq)) ∧ W.cell? ⟨wr.heap.size, 3, none⟩ = some (.string (bs zb)) ∧ W.cell? ⟨wr.heap.size, 4, none⟩ = some (.int .i64 zc) ∧ W.cell? ⟨w.heap.size, 0, none⟩ = some (.slice (some ⟨b, off, none⟩) M.length c0) ∧ W.cell? ⟨w.heap.size, 1, none⟩ = some v1 ∧ W.cell? ⟨w.heap.size, 2, none⟩ = some v2 ∧ Pure Wd W)) := fun W hW => by
          have hwb := Pure.then_ hpd hW
          have ed := (hW.block _ (lt_of_block hbd)).trans hbd
          obtain ⟨g0, g1, g2⟩ := hC.out W (hp.then_ hwb)
          exact ⟨cell_of_block ed 0, cell_of_block ed 1, cell_of_block ed 2, cell_of_block ed 3, cell_of_block ed 4, g0, g1, g2, hW⟩
        have hst := hid (hS.out Wd.drew (Below.refl _ _).drew)
        have hS2 : Hid (∀ W : World, (W.cell? ⟨wr.heap.size, 0, none⟩ = some (.int .i64 z1) ∧ W.cell? ⟨wr.heap.size, 1, none⟩ = some (.int .i64 z2) ∧ W.cell? ⟨wr.heap.size, 2, none⟩ = some (.string (bs zq)) ∧ W.cell? ⟨wr.heap.size, 3, none⟩ = some (.string (bs zb)) ∧ W.cell? ⟨wr.heap.size, 4, none⟩ = some (.int .i64 zc) ∧ W.cell? ⟨w.heap.size, 0, none⟩ = some (.slice (some ⟨b, off, none⟩) M.length c0) ∧ W.cell? ⟨w.heap.size, 1, none⟩ = some v1 ∧ W.cell? ⟨w.heap.size, 2, none⟩ = some v2 ∧ Pure Wd W) → Pure Wd W) := fun W h => h.2.2.2.2.2.2.2.2
        have Hpd := hid hpd
        have Hwd := hid (hp.then_ hpd)
        clear hp hb hbd hpd
        go_wp2_with fail
        rw [← hWd]
        clear hWd x0 x1 x2 x3 x4
        refine wp_region_held_drew (S := (fun W => W.cell? ⟨wr.heap.size, 0, none⟩ = some (.int .i64 z1) ∧ W.cell? ⟨wr.heap.size, 1, none⟩ = some (.int .i64 z2) ∧ W.cell? ⟨wr.heap.size, 2, none⟩ = some (.string (bs zq)) ∧ W.cell? ⟨wr.heap.size, 3, none⟩ = some (.string (bs zb)) ∧ W.cell? ⟨wr.heap.size, 4, none⟩ = some (.int .i64 zc) ∧ W.cell? ⟨w.heap.size, 0, none⟩ = some (.slice (some ⟨b, off, none⟩) M.length c0) ∧ W.cell? ⟨w.heap.size, 1, none⟩ = some v1 ∧ W.cell? ⟨w.heap.size, 2, none⟩ = some v2 ∧ Pure Wd W)) (by kernel_rfl) ?_ (fun hHeld => ?_)
        · first | assumption | with_reducible exact hst.out | with_reducible exact hS.out _ (Pure.then_ (hS2.out _ (by assumption)) (by assumption))
        refine tkA 0 ?_
        refine wpAnyH_ready (rs := [1]) (by kernel_rfl) (by simp) ?_
        refine AllReadyH.cons rfl (fun K hK => ?_) AllReadyH.nil
        (try simp only [List.getElem_toArray, List.getElem_cons_succ, List.getElem_cons_zero])
        go_simp
        go_at_call 178; (with_reducible refine (hmy.out _).mono ?_); rintro e w7 ⟨rfl, hp7⟩; go_wp2_with fail
        refine hK.out _ _ ?_ (fun hHeld => ?_)
        · first | assumption | with_reducible exact hst.out | with_reducible exact hS.out _ (Pure.then_ (hS2.out _ (by assumption)) (by assumption))
        clear hK K
        try simp only [Act.put, List.setIfInBounds_toArray, List.set_cons_zero, List.set_cons_succ, List.getElem_toArray, List.getElem_cons_succ, List.getElem_cons_zero]
        refine tkA 2 ?_
        refine tkA 3 ?_
        refine tkA 4 ?_
        refine tkA 5 ?_
        refine tkA 6 ?_
        refine tkA 7 ?_
        refine wpAnyH_ready (rs := [8]) (by kernel_rfl) (by simp) ?_
        refine AllReadyH.cons rfl (fun K hK => ?_) AllReadyH.nil
        (try simp only [List.getElem_toArray, List.getElem_cons_succ, List.getElem_cons_zero])
        go_simp
        go_at_call 144; (with_reducible refine (hhs.out _ (Pure.then_ Hwd.out (hS2.out _ (by assumption)))).mono ?_); rintro e w8 ⟨rfl, hp8⟩; go_wp2_with fail
        refine hK.out _ _ ?_ (fun hHeld => ?_)
        · first | assumption | with_reducible exact hst.out | with_reducible exact hS.out _ (Pure.then_ (hS2.out _ (by assumption)) (by assumption))
        clear hK K
        try simp only [Act.put, List.setIfInBounds_toArray, List.set_cons_zero, List.set_cons_succ, List.getElem_toArray, List.getElem_cons_succ, List.getElem_cons_zero]
        refine tkA 9 ?_
        refine tkA 10 ?_
        refine tkA 11 ?_
        refine tkU 12 ?_
        refine tkU 13 ?_
        refine tkU 14 ?_
        refine tkU 15 ?_
        refine tkU 16 ?_
        refine tkU 17 ?_
        refine tkU 18 ?_
        refine tkU 19 ?_
        refine tkU 20 ?_
        refine tkU 21 ?_
        refine tkU 22 ?_
        refine tkU 23 ?_
        refine tkU 24 ?_
        refine tkU 25 ?_
        refine tkU 26 ?_
        refine tkA 27 ?_
        refine wpAnyH_done (by kernel_rfl) ?_ _
        have hx := hid (Hp.out.then_ (Pure.then_ Hpd.out (hS2.out w8 (by assumption))))
        clear hst hS hS2 hp7 hp8
        go_wp2
        go_ret
        exact ⟨by rw [HE.out]; rfl, Hpz.out.then_ hx.out⟩
      | true =>
      by_cases h0 : 0 < k
      · have h0' : (0 : Int) < (k : Int) := by omega
        have hsub : IntKind.i64.wrap ((k : Int) - 1) = ((k - 1 : Nat) : Int) := by rw [IntWalk.i64_in _ (by omega)]; omega
        have hsub2 : (k : Int) - 1 = ((k - 1 : Nat) : Int) := by omega
        have hlt2 : ((k - 1 : Nat) : Int) < (M.length : Int) := by omega
        have hn : (0 : Int) ≤ ((k - 1 : Nat) : Int) := by omega
        have hwm : IntKind.i64.wrap (((k - 1 : Nat) : Nat) : Int) = ((k - 1 : Nat) : Int) := IntWalk.i64_in _ (by omega)
        obtain ⟨b', off', e', hb', y0, y1, -, -, -⟩ := Msgs.get Hrow.out (show k - 1 < M.length by omega)
        cases e'
        generalize M.getD (k - 1) m0 = y at *
        obtain ⟨⟨q1, q2⟩, yq, yb, yc⟩ := y
        dsimp only at y0 y1 hbat
        have hls := hid (fun W => hless.out (q1, q2) (z1, z2) W)
        dsimp only at hls
        have hbat2 := hid (show V = dlt (q1, q2) (z1, z2) from by rw [hbat.out, decide_eq_false (show ¬ k = 0 by omega)]; rfl)
        generalize dlt (q1, q2) (z1, z2) = D3 at *
        cases D3 with
        | false =>
          have HE := hid (hNo.out hbat2.out)
          have hS : Hid (∀ W, Pure Wd W → (W.cell? ⟨wr.heap.size, 0, none⟩ = some (.int .i64 z1) ∧ W.cell? ⟨wr.heap.size, 1, none⟩ = some (.int .i64 z2) ∧ W.cell? ⟨wr.heap.size, 2, none⟩ = some (.string (bs zq)) ∧ W.cell? ⟨wr.heap.size, 3, none⟩ = some (.string (bs zb)) ∧ W.cell? ⟨wr.heap.size, 4, none⟩ = some (.int .i64 zc) ∧ W.cell? ⟨w.heap.size, 0, none⟩ = some (.slice (some ⟨b, off, none⟩) M.length c0) ∧ W.cell? ⟨w.heap.size, 1, none⟩ = some v1 ∧ W.cell? ⟨w.heap.size, 2, none⟩ = some v2 ∧ W.cell? ⟨b, off + (k - 1) * 5, none⟩ = some (.int .i64 q1) ∧ W.cell? ⟨b, off + (k - 1) * 5 + 1, none⟩ = some (.int .i64 q2) ∧ Pure Wd W)) := fun W hW => by
            have hwb := Pure.then_ hpd hW
            have ed := (hW.block _ (lt_of_block hbd)).trans hbd
            obtain ⟨g0, g1, g2⟩ := hC.out W (hp.then_ hwb)
            exact ⟨cell_of_block ed 0, cell_of_block ed 1, cell_of_block ed 2, cell_of_block ed 3, cell_of_block ed 4, g0, g1, g2, (hwb.cell hb).trans y0, (hwb.cell hb).trans y1, hW⟩
          have hst := hid (hS.out Wd.drew (Below.refl _ _).drew)
          have hS2 : Hid (∀ W : World, (W.cell? ⟨wr.heap.size, 0, none⟩ = some (.int .i64 z1) ∧ W.cell? ⟨wr.heap.size, 1, none⟩ = some (.int .i64 z2) ∧ W.cell? ⟨wr.heap.size, 2, none⟩ = some (.string (bs zq)) ∧ W.cell? ⟨wr.heap.size, 3, none⟩ = some (.string (bs zb)) ∧ W.cell? ⟨wr.heap.size, 4, none⟩ = some (.int .i64 zc) ∧ W.cell? ⟨w.heap.size, 0, none⟩ = some (.slice (some ⟨b, off, none⟩) M.length c0) ∧ W.cell? ⟨w.heap.size, 1, none⟩ = some v1 ∧ W.cell? ⟨w.heap.size, 2, none⟩ = some v2 ∧ W.cell? ⟨b, off + (k - 1) * 5, none⟩ = some (.int .i64 q1) ∧ W.cell? ⟨b, off + (k - 1) * 5 + 1, none⟩ = some (.int .i64 q2) ∧ Pure Wd W) → Pure Wd W) := fun W h => h.2.2.2.2.2.2.2.2.2.2
          have Hpd := hid hpd
          have Hwd := hid (hp.then_ hpd)
          clear hp hb hbd hpd y0 y1
          generalize hj : k - 1 = j at *
          go_wp2_with fail
          rw [← hWd]
          clear hWd x0 x1 x2 x3 x4
          refine wp_region_held_drew (S := (fun W => W.cell? ⟨wr.heap.size, 0, none⟩ = some (.int .i64 z1) ∧ W.cell? ⟨wr.heap.size, 1, none⟩ = some (.int .i64 z2) ∧ W.cell? ⟨wr.heap.size, 2, none⟩ = some (.string (bs zq)) ∧ W.cell? ⟨wr.heap.size, 3, none⟩ = some (.string (bs zb)) ∧ W.cell? ⟨wr.heap.size, 4, none⟩ = some (.int .i64 zc) ∧ W.cell? ⟨w.heap.size, 0, none⟩ = some (.slice (some ⟨b, off, none⟩) M.length c0) ∧ W.cell? ⟨w.heap.size, 1, none⟩ = some v1 ∧ W.cell? ⟨w.heap.size, 2, none⟩ = some v2 ∧ W.cell? ⟨b, off + j * 5, none⟩ = some (.int .i64 q1) ∧ W.cell? ⟨b, off + j * 5 + 1, none⟩ = some (.int .i64 q2) ∧ Pure Wd W)) (by kernel_rfl) ?_ (fun hHeld => ?_)
          · first | assumption | with_reducible exact hst.out | with_reducible exact hS.out _ (Pure.then_ (hS2.out _ (by assumption)) (by assumption))
          refine tkA 0 ?_
          refine wpAnyH_ready (rs := [1]) (by kernel_rfl) (by simp) ?_
          refine AllReadyH.cons rfl (fun K hK => ?_) AllReadyH.nil
          (try simp only [List.getElem_toArray, List.getElem_cons_succ, List.getElem_cons_zero])
          go_simp
          go_at_call 178; (with_reducible refine (hmy.out _).mono ?_); rintro e w7 ⟨rfl, hp7⟩; go_wp2_with fail
          refine hK.out _ _ ?_ (fun hHeld => ?_)
          · first | assumption | with_reducible exact hst.out | with_reducible exact hS.out _ (Pure.then_ (hS2.out _ (by assumption)) (by assumption))
          clear hK K
          try simp only [Act.put, List.setIfInBounds_toArray, List.set_cons_zero, List.set_cons_succ, List.getElem_toArray, List.getElem_cons_succ, List.getElem_cons_zero]
          refine tkA 2 ?_
          refine tkA 3 ?_
          refine tkA 4 ?_
          refine tkA 5 ?_
          refine tkA 6 ?_
          refine tkA 7 ?_
          refine wpAnyH_ready (rs := [8]) (by kernel_rfl) (by simp) ?_
          refine AllReadyH.cons rfl (fun K hK => ?_) AllReadyH.nil
          (try simp only [List.getElem_toArray, List.getElem_cons_succ, List.getElem_cons_zero])
          go_simp
          go_at_call 144; (with_reducible refine (hhs.out _ (Pure.then_ Hwd.out (hS2.out _ (by assumption)))).mono ?_); rintro e w8 ⟨rfl, hp8⟩; go_wp2_with fail
          refine hK.out _ _ ?_ (fun hHeld => ?_)
          · first | assumption | with_reducible exact hst.out | with_reducible exact hS.out _ (Pure.then_ (hS2.out _ (by assumption)) (by assumption))
          clear hK K
          try simp only [Act.put, List.setIfInBounds_toArray, List.set_cons_zero, List.set_cons_succ, List.getElem_toArray, List.getElem_cons_succ, List.getElem_cons_zero]
          refine tkA 9 ?_
          refine tkA 10 ?_
          refine tkA 11 ?_
          refine tkA 12 ?_
          refine tkA 13 ?_
          refine tkA 14 ?_
          refine tkA 15 ?_
          refine tkA 16 ?_
          refine tkA 17 ?_
          refine tkA 18 ?_
          refine tkA 19 ?_
          refine tkA 20 ?_
          refine tkA 21 ?_
          refine tkA 22 ?_
          refine tkA 23 ?_
          refine wpAnyH_ready (rs := [24]) (by kernel_rfl) (by simp) ?_
          refine AllReadyH.cons rfl (fun K hK => ?_) AllReadyH.nil
          (try simp only [List.getElem_toArray, List.getElem_cons_succ, List.getElem_cons_zero])
          go_simp
          go_at_call 145; (with_reducible refine (hls.out _).mono ?_); rintro e w9 ⟨rfl, hp9⟩; go_wp2_with fail
          refine hK.out _ _ ?_ (fun hHeld => ?_)
          · first | assumption | with_reducible exact hst.out | with_reducible exact hS.out _ (Pure.then_ (hS2.out _ (by assumption)) (by assumption))
          clear hK K
          try simp only [Act.put, List.setIfInBounds_toArray, List.set_cons_zero, List.set_cons_succ, List.getElem_toArray, List.getElem_cons_succ, List.getElem_cons_zero]
          refine tkA 25 ?_
          refine tkA 26 ?_
          refine tkA 27 ?_
          refine wpAnyH_done (by kernel_rfl) ?_ _
          have hx := hid (Hp.out.then_ (Pure.then_ Hpd.out (hS2.out w9 (by assumption))))
          clear hst hS hS2 hp7 hp8 hp9
          go_wp2
          go_ret
          exact ⟨by rw [HE.out]; rfl, Hpz.out.then_ hx.out⟩
        | true =>
          have HN := hid (hYes.out hbat2.out)
          have hS : Hid (∀ W, Pure Wd W → (W.cell? ⟨wr.heap.size, 0, none⟩ = some (.int .i64 z1) ∧ W.cell? ⟨wr.heap.size, 1, none⟩ = some (.int .i64 z2) ∧ W.cell? ⟨wr.heap.size, 2, none⟩ = some (.string (bs zq)) ∧ W.cell? ⟨wr.heap.size, 3, none⟩ = some (.string (bs zb)) ∧ W.cell? ⟨wr.heap.size, 4, none⟩ = some (.int .i64 zc) ∧ W.cell? ⟨w.heap.size, 0, none⟩ = some (.slice (some ⟨b, off, none⟩) M.length c0) ∧ W.cell? ⟨w.heap.size, 1, none⟩ = some v1 ∧ W.cell? ⟨w.heap.size, 2, none⟩ = some v2 ∧ W.cell? ⟨b, off + (k - 1) * 5, none⟩ = some (.int .i64 q1) ∧ W.cell? ⟨b, off + (k - 1) * 5 + 1, none⟩ = some (.int .i64 q2) ∧ Pure Wd W)) := fun W hW => by
            have hwb := Pure.then_ hpd hW
            have ed := (hW.block _ (lt_of_block hbd)).trans hbd
            obtain ⟨g0, g1, g2⟩ := hC.out W (hp.then_ hwb)
            exact ⟨cell_of_block ed 0, cell_of_block ed 1, cell_of_block ed 2, cell_of_block ed 3, cell_of_block ed 4, g0, g1, g2, (hwb.cell hb).trans y0, (hwb.cell hb).trans y1, hW⟩
          have hst := hid (hS.out Wd.drew (Below.refl _ _).drew)
          have hS2 : Hid (∀ W : World, (W.cell? ⟨wr.heap.size, 0, none⟩ = some (.int .i64 z1) ∧ W.cell? ⟨wr.heap.size, 1, none⟩ = some (.int .i64 z2) ∧ W.cell? ⟨wr.heap.size, 2, none⟩ = some (.string (bs zq)) ∧ W.cell? ⟨wr.heap.size, 3, none⟩ = some (.string (bs zb)) ∧ W.cell? ⟨wr.heap.size, 4, none⟩ = some (.int .i64 zc) ∧ W.cell? ⟨w.heap.size, 0, none⟩ = some (.slice (some ⟨b, off, none⟩) M.length c0) ∧ W.cell? ⟨w.heap.size, 1, none⟩ = some v1 ∧ W.cell? ⟨w.heap.size, 2, none⟩ = some v2 ∧ W.cell? ⟨b, off + (k - 1) * 5, none⟩ = some (.int .i64 q1) ∧ W.cell? ⟨b, off + (k - 1) * 5 + 1, none⟩ = some (.int .i64 q2) ∧ Pure Wd W) → Pure Wd W) := fun W h => h.2.2.2.2.2.2.2.2.2.2
          have Hpd := hid hpd
          have Hwd := hid (hp.then_ hpd)
          clear hp hb hbd hpd y0 y1
          generalize hj : k - 1 = j at *
          go_wp2_with fail
          rw [← hWd]
          clear hWd x0 x1 x2 x3 x4
          refine wp_region_held_drew (S := (fun W => W.cell? ⟨wr.heap.size, 0, none⟩ = some (.int .i64 z1) ∧ W.cell? ⟨wr.heap.size, 1, none⟩ = some (.int .i64 z2) ∧ W.cell? ⟨wr.heap.size, 2, none⟩ = some (.string (bs zq)) ∧ W.cell? ⟨wr.heap.size, 3, none⟩ = some (.string (bs zb)) ∧ W.cell? ⟨wr.heap.size, 4, none⟩ = some (.int .i64 zc) ∧ W.cell? ⟨w.heap.size, 0, none⟩ = some (.slice (some ⟨b, off, none⟩) M.length c0) ∧ W.cell? ⟨w.heap.size, 1, none⟩ = some v1 ∧ W.cell? ⟨w.heap.size, 2, none⟩ = some v2 ∧ W.cell? ⟨b, off + j * 5, none⟩ = some (.int .i64 q1) ∧ W.cell? ⟨b, off + j * 5 + 1, none⟩ = some (.int .i64 q2) ∧ Pure Wd W)) (by kernel_rfl) ?_ (fun hHeld => ?_)
          · first | assumption | with_reducible exact hst.out | with_reducible exact hS.out _ (Pure.then_ (hS2.out _ (by assumption)) (by assumption))
          refine tkA 0 ?_
          refine wpAnyH_ready (rs := [1]) (by kernel_rfl) (by simp) ?_
          refine AllReadyH.cons rfl (fun K hK => ?_) AllReadyH.nil
          (try simp only [List.getElem_toArray, List.getElem_cons_succ, List.getElem_cons_zero])
          go_simp
          go_at_call 178; (with_reducible refine (hmy.out _).mono ?_); rintro e w7 ⟨rfl, hp7⟩; go_wp2_with fail
          refine hK.out _ _ ?_ (fun hHeld => ?_)
          · first | assumption | with_reducible exact hst.out | with_reducible exact hS.out _ (Pure.then_ (hS2.out _ (by assumption)) (by assumption))
          clear hK K
          try simp only [Act.put, List.setIfInBounds_toArray, List.set_cons_zero, List.set_cons_succ, List.getElem_toArray, List.getElem_cons_succ, List.getElem_cons_zero]
          refine tkA 2 ?_
          refine tkA 3 ?_
          refine tkA 4 ?_
          refine tkA 5 ?_
          refine tkA 6 ?_
          refine tkA 7 ?_
          refine wpAnyH_ready (rs := [8]) (by kernel_rfl) (by simp) ?_
          refine AllReadyH.cons rfl (fun K hK => ?_) AllReadyH.nil
          (try simp only [List.getElem_toArray, List.getElem_cons_succ, List.getElem_cons_zero])
          go_simp
          go_at_call 144; (with_reducible refine (hhs.out _ (Pure.then_ Hwd.out (hS2.out _ (by assumption)))).mono ?_); rintro e w8 ⟨rfl, hp8⟩; go_wp2_with fail
          refine hK.out _ _ ?_ (fun hHeld => ?_)
          · first | assumption | with_reducible exact hst.out | with_reducible exact hS.out _ (Pure.then_ (hS2.out _ (by assumption)) (by assumption))
          clear hK K
          try simp only [Act.put, List.setIfInBounds_toArray, List.set_cons_zero, List.set_cons_succ, List.getElem_toArray, List.getElem_cons_succ, List.getElem_cons_zero]
          refine tkA 9 ?_
          refine tkA 10 ?_
          refine tkA 11 ?_
          refine tkA 12 ?_
          refine tkA 13 ?_
          refine tkA 14 ?_
          refine tkA 15 ?_
          refine tkA 16 ?_
          refine tkA 17 ?_
          refine tkA 18 ?_
          refine tkA 19 ?_
          refine tkA 20 ?_
          refine tkA 21 ?_
          refine tkA 22 ?_
          refine tkA 23 ?_
          refine wpAnyH_ready (rs := [24]) (by kernel_rfl) (by simp) ?_
          refine AllReadyH.cons rfl (fun K hK => ?_) AllReadyH.nil
          (try simp only [List.getElem_toArray, List.getElem_cons_succ, List.getElem_cons_zero])
          go_simp
          go_at_call 145; (with_reducible refine (hls.out _).mono ?_); rintro e w9 ⟨rfl, hp9⟩; go_wp2_with fail
          refine hK.out _ _ ?_ (fun hHeld => ?_)
          · first | assumption | with_reducible exact hst.out | with_reducible exact hS.out _ (Pure.then_ (hS2.out _ (by assumption)) (by assumption))
          clear hK K
          try simp only [Act.put, List.setIfInBounds_toArray, List.set_cons_zero, List.set_cons_succ, List.getElem_toArray, List.getElem_cons_succ, List.getElem_cons_zero]
          refine tkA 25 ?_
          refine tkA 26 ?_
          refine tkA 27 ?_
          refine wpAnyH_done (by kernel_rfl) ?_ _
          have hx := hid (Hp.out.then_ (Pure.then_ Hpd.out (hS2.out w9 (by assumption))))
          clear hst hS hS2 hp7 hp8 hp9
          go_wp2
          go_roundw
          case rel => exact ⟨k + 1, by omega, by go_num, HN.out, hx.out⟩
          case measure => simp [RowKit.intOf]; omega
      · have hg : decide ((0 : Int) < (k : Int)) = false := by simp; omega
        have HN := hid (hYes.out (by rw [hbat.out, decide_eq_true (show k = 0 by omega)]; rfl))
        have hS : Hid (∀ W, Pure Wd W → (W.cell? ⟨wr.heap.size, 0, none⟩ = some (.int .i64 z1) ∧ W.cell? ⟨wr.heap.size, 1, none⟩ = some (.int .i64 z2) ∧ W.cell? ⟨wr.heap.size, 2, none⟩ = some (.string (bs zq)) ∧ W.cell? ⟨wr.heap.size, 3, none⟩ = some (.string (bs zb)) ∧ W.cell? ⟨wr.heap.size, 4, none⟩ = some (.int .i64 zc) ∧ W.cell? ⟨w.heap.size, 0, none⟩ = some (.slice (some ⟨b, off, none⟩) M.length c0) ∧ W.cell? ⟨w.heap.size, 1, none⟩ = some v1 ∧ W.cell? ⟨w.heap.size, 2, none⟩ = some v2 ∧ Pure Wd W)) := fun W hW => by
          have hwb := Pure.then_ hpd hW
          have ed := (hW.block _ (lt_of_block hbd)).trans hbd
          obtain ⟨g0, g1, g2⟩ := hC.out W (hp.then_ hwb)
          exact ⟨cell_of_block ed 0, cell_of_block ed 1, cell_of_block ed 2, cell_of_block ed 3, cell_of_block ed 4, g0, g1, g2, hW⟩
        have hst := hid (hS.out Wd.drew (Below.refl _ _).drew)
        have hS2 : Hid (∀ W : World, (W.cell? ⟨wr.heap.size, 0, none⟩ = some (.int .i64 z1) ∧ W.cell? ⟨wr.heap.size, 1, none⟩ = some (.int .i64 z2) ∧ W.cell? ⟨wr.heap.size, 2, none⟩ = some (.string (bs zq)) ∧ W.cell? ⟨wr.heap.size, 3, none⟩ = some (.string (bs zb)) ∧ W.cell? ⟨wr.heap.size, 4, none⟩ = some (.int .i64 zc) ∧ W.cell? ⟨w.heap.size, 0, none⟩ = some (.slice (some ⟨b, off, none⟩) M.length c0) ∧ W.cell? ⟨w.heap.size, 1, none⟩ = some v1 ∧ W.cell? ⟨w.heap.size, 2, none⟩ = some v2 ∧ Pure Wd W) → Pure Wd W) := fun W h => h.2.2.2.2.2.2.2.2
        have Hpd := hid hpd
        have Hwd := hid (hp.then_ hpd)
        clear hp hb hbd hpd
        go_wp2_with fail
        rw [← hWd]
        clear hWd x0 x1 x2 x3 x4
        refine wp_region_held_drew (S := (fun W => W.cell? ⟨wr.heap.size, 0, none⟩ = some (.int .i64 z1) ∧ W.cell? ⟨wr.heap.size, 1, none⟩ = some (.int .i64 z2) ∧ W.cell? ⟨wr.heap.size, 2, none⟩ = some (.string (bs zq)) ∧ W.cell? ⟨wr.heap.size, 3, none⟩ = some (.string (bs zb)) ∧ W.cell? ⟨wr.heap.size, 4, none⟩ = some (.int .i64 zc) ∧ W.cell? ⟨w.heap.size, 0, none⟩ = some (.slice (some ⟨b, off, none⟩) M.length c0) ∧ W.cell? ⟨w.heap.size, 1, none⟩ = some v1 ∧ W.cell? ⟨w.heap.size, 2, none⟩ = some v2 ∧ Pure Wd W)) (by kernel_rfl) ?_ (fun hHeld => ?_)
        · first | assumption | with_reducible exact hst.out | with_reducible exact hS.out _ (Pure.then_ (hS2.out _ (by assumption)) (by assumption))
        refine tkA 0 ?_
        refine wpAnyH_ready (rs := [1]) (by kernel_rfl) (by simp) ?_
        refine AllReadyH.cons rfl (fun K hK => ?_) AllReadyH.nil
        (try simp only [List.getElem_toArray, List.getElem_cons_succ, List.getElem_cons_zero])
        go_simp
        go_at_call 178; (with_reducible refine (hmy.out _).mono ?_); rintro e w7 ⟨rfl, hp7⟩; go_wp2_with fail
        refine hK.out _ _ ?_ (fun hHeld => ?_)
        · first | assumption | with_reducible exact hst.out | with_reducible exact hS.out _ (Pure.then_ (hS2.out _ (by assumption)) (by assumption))
        clear hK K
        try simp only [Act.put, List.setIfInBounds_toArray, List.set_cons_zero, List.set_cons_succ, List.getElem_toArray, List.getElem_cons_succ, List.getElem_cons_zero]
        refine tkA 2 ?_
        refine tkA 3 ?_
        refine tkA 4 ?_
        refine tkA 5 ?_
        refine tkA 6 ?_
        refine tkA 7 ?_
        refine wpAnyH_ready (rs := [8]) (by kernel_rfl) (by simp) ?_
        refine AllReadyH.cons rfl (fun K hK => ?_) AllReadyH.nil
        (try simp only [List.getElem_toArray, List.getElem_cons_succ, List.getElem_cons_zero])
        go_simp
        go_at_call 144; (with_reducible refine (hhs.out _ (Pure.then_ Hwd.out (hS2.out _ (by assumption)))).mono ?_); rintro e w8 ⟨rfl, hp8⟩; go_wp2_with fail
        refine hK.out _ _ ?_ (fun hHeld => ?_)
        · first | assumption | with_reducible exact hst.out | with_reducible exact hS.out _ (Pure.then_ (hS2.out _ (by assumption)) (by assumption))
        clear hK K
        try simp only [Act.put, List.setIfInBounds_toArray, List.set_cons_zero, List.set_cons_succ, List.getElem_toArray, List.getElem_cons_succ, List.getElem_cons_zero]
        refine tkA 9 ?_
        refine tkA 10 ?_
        refine tkA 11 ?_
        refine tkA 12 ?_
        refine tkA 13 ?_
        refine tkA 14 ?_
        refine tkU 15 ?_
        refine tkU 16 ?_
        refine tkU 17 ?_
        refine tkU 18 ?_
        refine tkU 19 ?_
        refine tkU 20 ?_
        refine tkU 21 ?_
        refine tkU 22 ?_
        refine tkU 23 ?_
        refine tkU 24 ?_
        refine tkU 25 ?_
        refine tkA 26 ?_
        refine tkA 27 ?_
        refine wpAnyH_done (by kernel_rfl) ?_ _
        have hx := hid (Hp.out.then_ (Pure.then_ Hpd.out (hS2.out w8 (by assumption))))
        clear hst hS hS2 hp7 hp8
        go_wp2
        go_roundw
        case rel => exact ⟨k + 1, by omega, by go_num, HN.out, hx.out⟩
        case measure => simp [RowKit.intOf]; omega
    · obtain rfl : k = M.length := by omega
      have hlt' : ¬ (M.length : Int) < (M.length : Int) := by omega
      have HE := hid (Hgood.out HcX.out Hal.out)
      clear hp
      go_wp2
      go_ret
      exact ⟨by rw [HE.out]; rfl, Hpz.out.then_ Hp.out⟩
end Go.Proofs.YtdlpnhfgjficgaaGreat

namespace Go.Proofs.YtdlpnhfgjficgaaGreat
open Go.RowKit Go.Maps Go.Shelf Go.Sort

def RdBagP (T : TypeId) (b : Nat) (g : Bag) (s : RS) (w : World) (e : Ending) (w' : World) : Prop := ∃ v0 v1 v2, e = .returned (.agg #[v0, v1, v2]) ∧ BR3 v0 v1 v2 g w' ∧ BFr w.heap.size v0 v1 v2 ∧ RdAt T b s w' ∧ Kept (fun k => k = b) w w'
/-- A bag that is being read: its box nb, the result's box nr, the reader's b. -/
structure RbW (T : TypeId) (b nr nb : Nat) (X : List Dot × List Dot) (x1 x2 v : Value) (acc : List Msg) (s : RS) (w W : World) : Prop where
  r : RdK T b s w W
  box : W.heap[nb]? = some (.cells #[v, x1, x2] 34 (0, 0))
  res : W.heap[nr]? = some (.cells #[.slice none 0 0, .slice none 0 0, .slice none 0 0] 34 (0, 0))
  own : W.ownsRow (nb + 1) 43 5 v acc.length (mvs acc)
  ctx : CR x1 x2 X W
  wb : b < w.heap.size
  wr : w.heap.size = nr
  rn : nr < nb
  f1 : ∀ k, x1.rb = some k → nr < k ∧ k < nb
  f2 : ∀ k, x2.rb = some k → nr < k ∧ k < nb
section
variable {T : TypeId} {b nr nb : Nat} {X : List Dot × List Dot} {x1 x2 v : Value} {acc : List Msg} {s : RS} {w W W' : World}
theorem RbW.lt (h : RbW T b nr nb X x1 x2 v acc s w W) : nb < W.heap.size := lt_of_block h.box
theorem RbW.next (h : RbW T b nr nb X x1 x2 v acc s w W) {s' : RS} (hr : RdAt T b s' W') (hk : Kept (fun k => k = b) W W') : RbW T b nr nb X x1 x2 v acc s' w W' :=
  have hb := h.wb; have hw := h.wr; have hn := h.rn
  ⟨h.r.next hr hk, block_kept h.box hk (by omega), block_kept h.res hk (by omega), own_kept h.own hk (fun k hk e => by have := (h.own.lt k hk).1; omega),
    ⟨Dots.kept h.ctx.1 hk (fun k hk e => by have := (h.f1 k hk).1; omega), Dots.kept h.ctx.2 hk (fun k hk e => by have := (h.f2 k hk).1; omega)⟩, hb, hw, hn, h.f1, h.f2⟩
theorem RbW.pure (h : RbW T b nr nb X x1 x2 v acc s w W) (hp : Pure W W') : RbW T b nr nb X x1 x2 v acc s w W' := h.next (h.r.r.pure hp) hp.kept
theorem RbW.alloc (h : RbW T b nr nb X x1 x2 v acc s w W) (o : Obj) : RbW T b nr nb X x1 x2 v acc s w (W.alloc o) := h.pure ((Below.refl _ _).alloc (Nat.le_refl _) o)
theorem RbW.keep {S : Nat → Prop} (h : RbW T b nr nb X x1 x2 v acc s w W) (hk : Kept S W W') (hS : ∀ k, k ≤ nb → ¬ S k) (ho : ∀ k, v.ownBlock = some k → ¬ S k) : RbW T b nr nb X x1 x2 v acc s w W' :=
  have hb := h.wb; have hw := h.wr; have hn := h.rn
  ⟨⟨h.r.r.kept hk (hS b (by omega)), ⟨hk.os.trans h.r.k.os, hk.tape.trans h.r.k.tape, hk.output.trans h.r.k.output, Nat.le_trans h.r.k.size hk.size, fun k hk' he => (hk.block k (Nat.lt_of_lt_of_le hk' h.r.k.size) (hS k (by omega))).trans (h.r.k.block k hk' he)⟩⟩,
    (hk.block nb h.lt (hS nb (Nat.le_refl _))).trans h.box, (hk.block nr (lt_of_block h.res) (hS nr (by omega))).trans h.res, own_kept h.own hk ho,
    ⟨Dots.kept h.ctx.1 hk (fun k hk' => hS k (by have := (h.f1 k hk').2; omega)), Dots.kept h.ctx.2 hk (fun k hk' => hS k (by have := (h.f2 k hk').2; omega))⟩, hb, hw, hn, h.f1, h.f2⟩
theorem RbW.set (h : RbW T b nr nb X x1 x2 v acc s w W) {n i : Nat} (hn : nb < n) (ho : ∀ k, v.ownBlock = some k → k ≠ n) (u : Value) : RbW T b nr nb X x1 x2 v acc s w (W.setCell ⟨n, i, none⟩ u) :=
  h.keep (kset W n i u) (fun k hk e => by omega) ho
/-- Its row grows, and is laid into its box. -/
theorem RbW.grow (h : RbW T b nr nb X x1 x2 v acc s w W) {v' : Value} {acc' : List Msg} (hg : W.grownBy W' v.ownBlock) (hv : W'.ownsRow (nb + 1) 43 5 v' acc'.length (mvs acc')) : RbW T b nr nb X x1 x2 v' acc' s w (W'.setCell ⟨nb, 0, none⟩ v') := by
  have hb := h.wb
  have hw := h.wr
  have hn := h.rn
  have hk : Kept (fun k => nb < k) W W' := Kept.grown (S := fun k => nb < k) (Kept.refl _ _) hg (fun k hk _ => by have := (h.own.lt k hk).1; omega)
  have h2 : Kept (fun k => nb ≤ k) W (W'.setCell ⟨nb, 0, none⟩ v') := (hk.mono (fun k _ e => Nat.le_of_lt e)).setCell (p := ⟨nb, 0, none⟩) (fun _ => Nat.le_refl _) v'
  have hbox := (hk.block nb h.lt (by omega)).trans h.box
  refine ⟨⟨h.r.r.kept h2 (by omega), ⟨h2.os.trans h.r.k.os, h2.tape.trans h.r.k.tape, h2.output.trans h.r.k.output, Nat.le_trans h.r.k.size h2.size, fun k hk' he => (h2.block k (Nat.lt_of_lt_of_le hk' h.r.k.size) (by omega)).trans (h.r.k.block k hk' he)⟩⟩, ?_, (h2.block nr (lt_of_block h.res) (by omega)).trans h.res, own_kept hv (kset W' nb 0 v') (fun k hk e => by have := (hv.lt k hk).1; omega), ⟨Dots.kept h.ctx.1 h2 (fun k hk' => by have := (h.f1 k hk').2; omega), Dots.kept h.ctx.2 h2 (fun k hk' => by have := (h.f2 k hk').2; omega)⟩, hb, hw, hn, h.f1, h.f2⟩
  have := block_setCell hbox 0 v'
  simpa using this
theorem RbW.grownCells (h : RbW T b nr nb X x1 x2 v acc s w W) (hg : W.grownBy W' v.ownBlock) : W'.cell? ⟨nb, 0, none⟩ = some v ∧ W'.frozen? ⟨nb, 0, none⟩ = false := by
  have e := (hg.block nb h.lt (fun e => by have := (h.own.lt nb e.symm).1; omega)).trans h.box
  exact ⟨cell_of_block e 0, free_of_block e 0⟩
end
/-- The bag is laid into the result's box. -/
theorem RbW.done {T : TypeId} {b nr nb : Nat} {X : List Dot × List Dot} {x1 x2 v : Value} {acc : List Msg} {s : RS} {w W : World} (h : RbW T b nr nb X x1 x2 v acc s w W) {u0 u1 u2 : Value} :
    RdK T b s w (((W.setCell ⟨nr, 0, none⟩ u0).setCell ⟨nr, 1, none⟩ u1).setCell ⟨nr, 2, none⟩ u2) ∧ (((W.setCell ⟨nr, 0, none⟩ u0).setCell ⟨nr, 1, none⟩ u1).setCell ⟨nr, 2, none⟩ u2).heap[nr]? = some (.cells #[u0, u1, u2] 34 (0, 0)) ∧ BR3 v x1 x2 (acc, X) (((W.setCell ⟨nr, 0, none⟩ u0).setCell ⟨nr, 1, none⟩ u1).setCell ⟨nr, 2, none⟩ u2) ∧ BFr w.heap.size v x1 x2 := by
  have hb := h.wb
  have hw := h.wr
  have hn := h.rn
  have hk := ((kset W nr 0 u0).trans (kset _ nr 1 u1)).trans (kset _ nr 2 u2)
  refine ⟨((h.r.set (by omega) (by omega) _).set (by omega) (by omega) _).set (by omega) (by omega) _, ?_, ⟨Row.kept (Row.of_own h.own) hk (fun k hk e => by have := (h.own.lt k (rb_own hk)).1; omega), Dots.kept h.ctx.1 hk (fun k hk e => by have := (h.f1 k hk).1; omega), Dots.kept h.ctx.2 hk (fun k hk e => by have := (h.f2 k hk).1; omega)⟩, fun k hk => ?_, fun k hk => ?_, fun k hk => ?_⟩
  · have := block_setCell (block_setCell (block_setCell h.res 0 u0) 1 u1) 2 u2
    simpa using this
  · have := (h.own.lt k (rb_own hk)).1; omega
  · have := (h.f1 k hk).1; omega
  · have := (h.f2 k hk).1; omega
theorem RbW.cells {T : TypeId} {b nr nb : Nat} {X : List Dot × List Dot} {x1 x2 v : Value} {acc : List Msg} {s : RS} {w W : World} (h : RbW T b nr nb X x1 x2 v acc s w W) :
    W.cell? ⟨nb, 0, none⟩ = some v ∧ W.cell? ⟨nb, 1, none⟩ = some x1 ∧ W.cell? ⟨nb, 2, none⟩ = some x2 ∧ W.frozen? ⟨nb, 0, none⟩ = false ∧ W.cell? ⟨nr, 0, none⟩ = some (.slice none 0 0) ∧ W.cell? ⟨nr, 1, none⟩ = some (.slice none 0 0) ∧ W.cell? ⟨nr, 2, none⟩ = some (.slice none 0 0) ∧ W.frozen? ⟨nr, 0, none⟩ = false ∧ W.frozen? ⟨nr, 1, none⟩ = false ∧ W.frozen? ⟨nr, 2, none⟩ = false :=
  ⟨cell_of_block h.box 0, cell_of_block h.box 1, cell_of_block h.box 2, free_of_block h.box 0, cell_of_block h.res 0, cell_of_block h.res 1, cell_of_block h.res 2, free_of_block h.res 0, free_of_block h.res 1, free_of_block h.res 2⟩
/-- A message's box while it is read. -/
def MB (n : Nat) (x y : Int) (q p : List UInt8) (c : Int) (W : World) : Prop := W.heap[n]? = some (.cells #[.int .i64 x, .int .i64 y, .string (bs q), .string (bs p), .int .i64 c] 43 (0, 0))
theorem MB.cells {n : Nat} {x y : Int} {q p : List UInt8} {c : Int} {W : World} (h : MB n x y q p c W) : W.cell? ⟨n, 0, none⟩ = some (.int .i64 x) ∧ W.cell? ⟨n, 1, none⟩ = some (.int .i64 y) ∧ W.cell? ⟨n, 2, none⟩ = some (.string (bs q)) ∧ W.cell? ⟨n, 3, none⟩ = some (.string (bs p)) ∧ W.cell? ⟨n, 4, none⟩ = some (.int .i64 c) ∧ W.frozen? ⟨n, 2, none⟩ = false ∧ W.frozen? ⟨n, 3, none⟩ = false ∧ W.frozen? ⟨n, 4, none⟩ = false :=
  ⟨cell_of_block h 0, cell_of_block h 1, cell_of_block h 2, cell_of_block h 3, cell_of_block h 4, free_of_block h 2, free_of_block h 3, free_of_block h 4⟩
theorem MB.set2 {n : Nat} {x y : Int} {q p : List UInt8} {c : Int} {W : World} (h : MB n x y q p c W) (q' : List UInt8) : MB n x y q' p c (W.setCell ⟨n, 2, none⟩ (.string (bs q'))) := by
  have := block_setCell h 2 (.string (bs q')); simpa [MB] using this
theorem MB.set3 {n : Nat} {x y : Int} {q p : List UInt8} {c : Int} {W : World} (h : MB n x y q p c W) (p' : List UInt8) : MB n x y q p' c (W.setCell ⟨n, 3, none⟩ (.string (bs p'))) := by
  have := block_setCell h 3 (.string (bs p')); simpa [MB] using this
theorem MB.set4 {n : Nat} {x y : Int} {q p : List UInt8} {c : Int} {W : World} (h : MB n x y q p c W) (c' : Int) : MB n x y q p c' (W.setCell ⟨n, 4, none⟩ (.int .i64 c')) := by
  have := block_setCell h 4 (.int .i64 c'); simpa [MB] using this

set_option maxRecDepth 8000 in
set_option maxHeartbeats 4000000 in
theorem bread_any (b : Nat) (s : RS) (w : World) (h : RdAt 117 b s w) :
    Calls Tryz.prog 89 #[.pointer (some ⟨b, 0, none⟩)] w (RdBagP 117 b (rdBag s).1 (rdBag s).2 w) := by
  have hb := h.lt
  have Hb := hid hb
  have hctx := hid (fun s W (hW : RdAt 117 b s W) => cread_any b s W hW)
  have hfine := hid (fun s W (hW : RdAt 117 b s W) => fine_any b s W hW)
  have hint := hid (fun s W (hW : RdAt 117 b s W) => mintr_any b s 1000 W hW (by decide) (by decide))
  have hcnt := hid (fun s W (hW : RdAt 117 b s W) => mintr_any b s 1048576 W hW (by decide) (by decide))
  have htext := hid (fun s W (hW : RdAt 117 b s W) => mtextr_any b s 1000 W hW (by decide) (by decide))
  have hdot := hid (fun s W (hW : RdAt 117 b s W) => dread_any b s W hW)
  have hneg := hid (fun s W (hW : RdAt 117 b s W) => (show Calls _ _ _ _ _ from by have := mintr_any b s (-1) W hW (by decide) (by decide); rw [rdInt_neg (-1) (by decide)] at this; exact this))
  have hchk := hid (fun v0 v1 v2 g W hr l0 l1 l2 => bcheck_any5 v0 v1 v2 g W hr l0 l1 l2)
  unfold RdP at hneg hint hcnt htext hdot
  unfold dv at hdot
  unfold RdCtxP at hctx
  have Hd : Hid (rdBag s = match rdItems rdMsg (rdInt 1000 (rdCtx s).2).1.toNat [] (rdInt 1000 (rdCtx s).2).2 with
    | (_, none) => (([], [], []), none)
    | (l, some r) => if bchk (l, (rdCtx s).1) then ((l, (rdCtx s).1), some r) else (([], [], []), none)) := (show _ = _ from rfl)
  have hl := rdCtx_len s
  have hbd := rdInt_bd 1000 (rdCtx s).2
  have hz := rdInt_zero 1000 (rdCtx s).2
  have hi1 := hid (hctx.out s)
  have hi2 := hid (hint.out (rdCtx s).2)
  generalize rdBag s = R at *
  generalize rdInt 1000 (rdCtx s).2 = N2 at *
  generalize rdCtx s = N1 at *
  obtain ⟨⟨B, C⟩, s1⟩ := N1
  obtain ⟨x, s2⟩ := N2
  dsimp only at hi1 hi2 Hd hl hbd hz
  obtain ⟨n, rfl⟩ : ∃ n : Nat, x = n := ⟨x.toNat, by omega⟩
  have Hr2 := hid Hd.out
  rw [Int.toNat_natCast] at Hr2
  obtain ⟨total, htot⟩ : ∃ t, t = rdItems rdMsg n [] s2 := ⟨_, rfl⟩
  rw [← htot] at Hr2
  have hbn := hbd.2 (by omega)
  have Hl := hid hl
  clear hctx hint hbd Hd hl
  obtain ⟨wz, hwz⟩ : ∃ wz, wz = w.alloc (.cells #[.slice none 0 0, .slice none 0 0, .slice none 0 0] 34) := ⟨_, rfl⟩
  have Hz := hid (show RdK 117 b s w wz from by rw [hwz]; exact (RdK.start h).alloc _)
  have Bz := hid (show wz.heap[w.heap.size]? = some (.cells #[.slice none 0 0, .slice none 0 0, .slice none 0 0] 34 (0, 0)) from by rw [hwz]; exact block_alloc_new _ _)
  have Sz := hid (show wz.heap.size = w.heap.size + 1 from by rw [hwz]; simp)
  clear h
  go_enter Tryz.func89, Tryz.ntmps89
  go_wp2_with fail
  rw [← hwz]
  clear hwz
  refine (hi1.out wz Hz.out.r).mono ?_
  rintro e w1 ⟨x1, x2, rfl, hcr, hf1, hf2, hr1, hk1⟩
  obtain ⟨a1, c1, rfl⟩ := hcr.1.shape
  obtain ⟨a2, c2, rfl⟩ := hcr.2.shape
  have hs1 := hk1.size
  have hsz := Sz.out
  have G1 := hid (show ∀ k, (Value.slice a1 B.length c1).rb = some k → w.heap.size < k ∧ k < w1.heap.size from fun k hk => by have := hf1 k hk; have := Row.lt hcr.1 k hk; omega)
  have G2 := hid (show ∀ k, (Value.slice a2 C.length c2).rb = some k → w.heap.size < k ∧ k < w1.heap.size from fun k hk => by have := hf2 k hk; have := Row.lt hcr.2 k hk; omega)
  obtain ⟨v1, hv1⟩ : ∃ v1, v1 = w1.alloc (.cells #[.slice none 0 0, .slice a1 B.length c1, .slice a2 C.length c2] 34) := ⟨_, rfl⟩
  have H1 := hid (show RbW 117 b w.heap.size w1.heap.size (B, C) (.slice a1 B.length c1) (.slice a2 C.length c2) (.slice none 0 0) [] s1 w v1 from by
    have hr := (Hz.out.next hr1 hk1).alloc (.cells #[.slice none 0 0, .slice a1 B.length c1, .slice a2 C.length c2] 34)
    rw [← hv1] at hr
    exact ⟨hr, by rw [hv1]; exact block_alloc_new _ _, by rw [hv1]; exact block_alloc_old (block_kept Bz.out hk1 (by omega)) _, World.ownsRow_nil _ _ _ _, by rw [hv1]; exact hcr.pure ((Below.refl _ _).alloc (Nat.le_refl _) _), hb, rfl, by omega, G1.out, G2.out⟩)
  clear hr1 hk1 hcr hf1 hf2 hs1 hsz Bz Hz hi1
  go_wp2_with fail
  rw [← hv1]
  clear hv1
  generalize w1.heap.size = nb at *
  refine (hi2.out v1 H1.out.r.r).mono ?_
  rintro e w2 ⟨rfl, hr2, hk2⟩
  have H2 := hid (H1.out.next hr2 hk2)
  clear hr2 hk2 H1 hi2
  go_wp2_with fail
  cases s2 with
  | none =>
    have hn0 : n = 0 := by have := hz rfl; omega
    subst hn0
    have HR := hid (show R = (([], [], []), none) from by rw [Hr2.out, htot]; rfl)
    clear htot hz Hr2
    go_loopw [10] (fun i wr => i = .int .i64 0 ∧ wr = w2) (fun _ _ => 0)
    case atStart => exact ⟨rfl, rfl⟩
    case round =>
      obtain ⟨rfl, rfl⟩ := hrel
      go_wp2_with fail
      refine (hfine.out none _ H2.out.r.r).mono ?_
      rintro e w3 ⟨rfl, hp3⟩
      have H3 := hid (H2.out.pure hp3)
      clear hp3
      go_wp2_with fail
      refine (hneg.out none w3 H3.out.r.r).mono ?_
      rintro e w4 ⟨rfl, hr4, hk4⟩
      have H4 := hid (H3.out.next hr4 hk4)
      obtain ⟨e0, e1, e2, e3, e4, e5, e6, e7, e8, e9⟩ := H4.out.cells
      have HD := hid (H4.out.done (u0 := .slice none 0 0) (u1 := .slice none 0 0) (u2 := .slice none 0 0))
      clear hr4 hk4
      go_wp2
      exact bodyPost_ret (v := .agg #[.slice none 0 0, .slice none 0 0, .slice none 0 0]) (by simp [results, Tryz.results89, go_sem, cell_of_block HD.out.2.1 0, cell_of_block HD.out.2.1 1, cell_of_block HD.out.2.1 2]) rfl ⟨_, _, _, rfl, by rw [HR.out]; exact BR3.nil _, BFr.nil _, by rw [HR.out]; exact HD.out.1.r, HD.out.1.k⟩
  | some r1 =>
    have Htot := hid htot
    clear htot hz
    go_loopw [10] (fun i wr => ∃ (k : Nat) (v : Value) (acc : List Msg) (s : List UInt8), i = .int .i64 k ∧ k ≤ n ∧ acc.length = k ∧ RbW 117 b w.heap.size nb (B, C) (.slice a1 B.length c1) (.slice a2 C.length c2) v acc (some s) w wr ∧ rdItems rdMsg (n - k) acc (some s) = total) (fun i _ => n - (RowKit.intOf i).toNat)
    case atStart => exact ⟨0, _, [], r1, rfl, Nat.zero_le _, rfl, H2.out, Htot.out.symm⟩
    case round =>
      obtain ⟨k, v, acc, s, rfl, hkn, hlen, hI, ht⟩ := hrel
      have HI := hid hI
      have Ht := hid ht
      have Hlen := hid hlen
      have hl1000 : acc.length ≤ 1000 := by omega
      obtain ⟨a, c, rfl⟩ := own_shape_d hI.own
      clear hI ht hlen
      by_cases hlt : k < n
      · have hlt' : (k : Int) < (n : Int) := by omega
        have Hstep := hid (show (∀ x, rdMsg (some s) = (x, none) → total = ([], none)) ∧ (∀ x r, rdMsg (some s) = (x, some r) → rdItems rdMsg (n - (k + 1)) (acc ++ [x]) (some r) = total) from by
          have e : n - k = (n - (k + 1)) + 1 := by omega
          have ht := Ht.out
          rw [e] at ht
          exact ⟨fun x hx => by rw [← ht, rdItems_torn rdMsg _ _ _ x hx], fun x r hx => by rw [← ht, rdItems_fine rdMsg _ _ _ x r hx]⟩)
        have hM : rdMsg (some s) = (((rdDot (some s)).1, (rdText 1000 (rdDot (some s)).2).1, (rdText 1000 (rdText 1000 (rdDot (some s)).2).2).1, (rdInt 1048576 (rdText 1000 (rdText 1000 (rdDot (some s)).2).2).2).1), (rdInt 1048576 (rdText 1000 (rdText 1000 (rdDot (some s)).2).2).2).2) := rfl
        have h1 := hid (hdot.out (some s))
        have h2 := hid (htext.out (rdDot (some s)).2)
        have h3 := hid (htext.out (rdText 1000 (rdDot (some s)).2).2)
        have h4 := hid (hcnt.out (rdText 1000 (rdText 1000 (rdDot (some s)).2).2).2)
        rw [hM] at Hstep
        clear hM
        generalize rdInt 1048576 (rdText 1000 (rdText 1000 (rdDot (some s)).2).2).2 = N4 at *
        generalize rdText 1000 (rdText 1000 (rdDot (some s)).2).2 = N3 at *
        generalize rdText 1000 (rdDot (some s)).2 = N2 at *
        generalize rdDot (some s) = N1 at *
        obtain ⟨⟨d1, d2⟩, t1⟩ := N1
        obtain ⟨q, t2⟩ := N2
        obtain ⟨p, t3⟩ := N3
        obtain ⟨ct, t4⟩ := N4
        dsimp only at h1 h2 h3 h4 Hstep
        go_wp2_with fail
        refine (h1.out wr HI.out.r.r).mono ?_
        rintro e w3 ⟨rfl, hr3, hk3⟩
        have I3 := hid (HI.out.next hr3 hk3)
        obtain ⟨y3, hy3⟩ : ∃ y3, y3 = w3.alloc (.cells #[.int .i64 d1, .int .i64 d2, .string ⟨#[]⟩, .string ⟨#[]⟩, .int .i64 0] 43) := ⟨_, rfl⟩
        have J3 := hid (show RbW 117 b w.heap.size nb (B, C) (.slice a1 B.length c1) (.slice a2 C.length c2) (.slice a acc.length c) acc t1 w y3 from by rw [hy3]; exact I3.out.alloc _)
        have M3 := hid (show MB w3.heap.size d1 d2 [] [] 0 y3 from by rw [hy3]; exact block_alloc_new _ _)
        have nm := hid (show nb < w3.heap.size ∧ (∀ j, (Value.slice a acc.length c).ownBlock = some j → j ≠ w3.heap.size) from ⟨I3.out.lt, fun j hj e => by have := (I3.out.own.lt j hj).2; omega⟩)
        clear hr3 hk3 I3 h1
        go_wp2_with fail
        rw [← hy3]
        clear hy3
        generalize w3.heap.size = m at *
        refine (h2.out y3 J3.out.r.r).mono ?_
        rintro e w4 ⟨rfl, hr4, hk4⟩
        have I4 := hid (J3.out.next hr4 hk4)
        have M4 := hid (show MB m d1 d2 [] [] 0 w4 from block_kept M3.out hk4 (by have := nm.out.1; have := J3.out.rn; have := J3.out.wr; omega))
        obtain ⟨-, -, e2, -, -, f2, -, -⟩ := M4.out.cells
        obtain ⟨y4, hy4⟩ : ∃ y4, y4 = w4.setCell ⟨m, 2, none⟩ (.string (bs q)) := ⟨_, rfl⟩
        have J4 := hid (show RbW 117 b w.heap.size nb (B, C) (.slice a1 B.length c1) (.slice a2 C.length c2) (.slice a acc.length c) acc t2 w y4 from by rw [hy4]; exact I4.out.set nm.out.1 nm.out.2 _)
        have N4 := hid (show MB m d1 d2 q [] 0 y4 from by rw [hy4]; exact M4.out.set2 q)
        clear hr4 hk4 I4 M4 J3 M3 h2
        go_wp2_with fail
        rw [← hy4]
        clear hy4 e2 f2
        refine (h3.out y4 J4.out.r.r).mono ?_
        rintro e w5 ⟨rfl, hr5, hk5⟩
        have I5 := hid (J4.out.next hr5 hk5)
        have M5 := hid (show MB m d1 d2 q [] 0 w5 from block_kept N4.out hk5 (by have := nm.out.1; have := J4.out.rn; have := J4.out.wr; omega))
        obtain ⟨-, -, -, e3, -, -, f3, -⟩ := M5.out.cells
        obtain ⟨y5, hy5⟩ : ∃ y5, y5 = w5.setCell ⟨m, 3, none⟩ (.string (bs p)) := ⟨_, rfl⟩
        have J5 := hid (show RbW 117 b w.heap.size nb (B, C) (.slice a1 B.length c1) (.slice a2 C.length c2) (.slice a acc.length c) acc t3 w y5 from by rw [hy5]; exact I5.out.set nm.out.1 nm.out.2 _)
        have N5 := hid (show MB m d1 d2 q p 0 y5 from by rw [hy5]; exact M5.out.set3 p)
        clear hr5 hk5 I5 M5 J4 N4 h3
        go_wp2_with fail
        rw [← hy5]
        clear hy5 e3 f3
        refine (h4.out y5 J5.out.r.r).mono ?_
        rintro e w6 ⟨rfl, hr6, hk6⟩
        have I6 := hid (J5.out.next hr6 hk6)
        have M6 := hid (show MB m d1 d2 q p 0 w6 from block_kept N5.out hk6 (by have := nm.out.1; have := J5.out.rn; have := J5.out.wr; omega))
        obtain ⟨-, -, -, -, e4, -, -, f4⟩ := M6.out.cells
        have J6 := hid (I6.out.set (i := 4) nm.out.1 nm.out.2 (.int .i64 ct))
        have N6 := hid (M6.out.set4 ct)
        obtain ⟨y6, hy6⟩ : ∃ y6, y6 = w6.setCell ⟨m, 4, none⟩ (.int .i64 ct) := ⟨_, rfl⟩
        rw [← hy6] at J6 N6
        clear hr6 hk6 I6 M6 J5 N5 h4
        go_upto_region 8 with fail
        rw [← hy6]
        clear hy6 e4 f4
        obtain ⟨g0, g1, g2, g3, g4, -, -, -⟩ := N6.out.cells
        obtain ⟨b0, -, -, b3, -, -, -, -, -, -⟩ := J6.out.cells
        have hsz6 := hid (show nb + 1 ≤ (y6.alloc (.cells #[.int .i64 d1, .int .i64 d2, .string (bs q), .string (bs p), .int .i64 ct] 43)).heap.size from by have := J6.out.lt; simp; omega)
        have hs6 := hsz6.out
        go_wp2_with (at_builtin; refine wpList_append_msgs rfl _ _ rfl (nb + 1) _ acc acc.length rfl (J6.out.own.alloc _) _ [((d1, d2), q, p, ct)] 1 rfl (msgs_lit y6 ((d1, d2), q, p, ct)) (by omega) hs6 ?_)
        intro v7 w7 hown7 hg7
        have Hown7 := hid (show w7.ownsRow (nb + 1) 43 5 v7 (acc ++ [((d1, d2), q, p, ct)]).length (mvs (acc ++ [((d1, d2), q, p, ct)])) from by rw [List.length_append]; exact hown7)
        have J7 := hid ((J6.out.alloc _).grow hg7 Hown7.out)
        obtain ⟨h0, h3⟩ := (J6.out.alloc _).grownCells hg7
        obtain ⟨a7, c7, rfl⟩ := own_shape_d hown7
        obtain ⟨y7, hy7⟩ : ∃ y7, y7 = w7.setCell ⟨nb, 0, none⟩ (.slice a7 (acc.length + 1) c7) := ⟨_, rfl⟩
        rw [← hy7] at J7
        clear hown7 hg7 b0 b3 g0 g1 g2 g3 g4 hs6
        go_wp2_with fail
        rw [← hy7]
        clear hy7 h0 h3
        refine (hfine.out t4 y7 J7.out.r.r).mono ?_
        rintro e w8 ⟨rfl, hp8⟩
        have J8 := hid (J7.out.pure hp8)
        clear hp8
        cases t4 with
        | none =>
          have HR := hid (show R = (([], [], []), none) from by rw [Hr2.out, Hstep.out.1 _ rfl])
          obtain ⟨e0, e1, e2, e3, e4, e5, e6, e7, e8, e9⟩ := J8.out.cells
          have HD := hid (J8.out.done (u0 := .slice none 0 0) (u1 := .slice none 0 0) (u2 := .slice none 0 0))
          go_wp2
          exact bodyPost_ret (v := .agg #[.slice none 0 0, .slice none 0 0, .slice none 0 0]) (by simp [results, Tryz.results89, go_sem, cell_of_block HD.out.2.1 0, cell_of_block HD.out.2.1 1, cell_of_block HD.out.2.1 2]) rfl ⟨_, _, _, rfl, by rw [HR.out]; exact BR3.nil _, BFr.nil _, by rw [HR.out]; exact HD.out.1.r, HD.out.1.k⟩
        | some r2 =>
          have HN := hid (Hstep.out.2 _ _ rfl)
          go_wp2
          go_roundw
          case rel => exact ⟨k + 1, _, acc ++ [((d1, d2), q, p, ct)], r2, by go_num, by omega, by simp [Hlen.out], J8.out, HN.out⟩
          case measure => simp [RowKit.intOf]; omega
      · obtain rfl : k = n := by omega
        have hlt' : ¬ (k : Int) < (k : Int) := by omega
        have Htt := hid (show total = (acc, some s) from by have := Ht.out; rw [Nat.sub_self] at this; exact this.symm)
        have HRr := hid (show R = if bchk (acc, (B, C)) then ((acc, (B, C)), some s) else (([], [], []), none) from by rw [Hr2.out, Htt.out])
        go_wp2_with fail
        refine (hfine.out (some s) wr HI.out.r.r).mono ?_
        rintro e w3 ⟨rfl, hp3⟩
        have J3 := hid (HI.out.pure hp3)
        have hcb := hid (hchk.out _ _ _ (acc, (B, C)) w3 ⟨Row.of_own J3.out.own, J3.out.ctx.1, J3.out.ctx.2⟩ (by show acc.length ≤ _; omega) (by show B.length ≤ _; have := Hl.out.1; omega) (by show C.length ≤ _; have := Hl.out.2; omega))
        obtain ⟨e0, e1, e2, -, -, -, -, -, -, -⟩ := J3.out.cells
        unfold errOf at hcb
        generalize bchk (acc, (B, C)) = V at *
        clear hp3
        go_wp2_with fail
        refine hcb.out.mono ?_
        rintro e w4 ⟨rfl, hp4⟩
        have J4 := hid (J3.out.pure hp4)
        clear hp4 e0 e1 e2
        cases V with
        | false =>
          have HR := hid (show R = (([], [], []), none) from HRr.out)
          go_wp2_with fail
          refine (hneg.out (some s) w4 J4.out.r.r).mono ?_
          rintro e w5 ⟨rfl, hr5, hk5⟩
          have J5 := hid (J4.out.next hr5 hk5)
          clear hr5 hk5
          obtain ⟨e0, e1, e2, e3, e4, e5, e6, e7, e8, e9⟩ := J5.out.cells
          have HD := hid (J5.out.done (u0 := .slice none 0 0) (u1 := .slice none 0 0) (u2 := .slice none 0 0))
          go_wp2
          exact bodyPost_ret (v := .agg #[.slice none 0 0, .slice none 0 0, .slice none 0 0]) (by simp [results, Tryz.results89, go_sem, cell_of_block HD.out.2.1 0, cell_of_block HD.out.2.1 1, cell_of_block HD.out.2.1 2]) rfl ⟨_, _, _, rfl, by rw [HR.out]; exact BR3.nil _, BFr.nil _, by rw [HR.out]; exact HD.out.1.r, HD.out.1.k⟩
        | true =>
          have HR := hid (show R = ((acc, (B, C)), some s) from HRr.out)
          obtain ⟨e0, e1, e2, e3, e4, e5, e6, e7, e8, e9⟩ := J4.out.cells
          have HD := hid (J4.out.done (u0 := .slice a acc.length c) (u1 := .slice a1 B.length c1) (u2 := .slice a2 C.length c2))
          go_wp2
          exact bodyPost_ret (v := .agg #[.slice a acc.length c, .slice a1 B.length c1, .slice a2 C.length c2]) (by simp [results, Tryz.results89, go_sem, cell_of_block HD.out.2.1 0, cell_of_block HD.out.2.1 1, cell_of_block HD.out.2.1 2]) rfl ⟨_, _, _, rfl, by rw [HR.out]; exact HD.out.2.2.1, HD.out.2.2.2, by rw [HR.out]; exact HD.out.1.r, HD.out.1.k⟩
end Go.Proofs.YtdlpnhfgjficgaaGreat

