/- names.Join. -/
import Derived.Test.YtdlpnhfgjficgaaGreatMTx
import Derived.Test.YtdlpnhfgjficgaaGreatMJr
import Derived.Test.YtdlpnhfgjficgaaGreatSuf
import Derived.Test.YtdlpnhfgjficgaaGreatMCtx
import Derived.WalkMore
namespace Go.Proofs.YtdlpnhfgjficgaaGreat
open Go.RowKit Go.Maps Go.Shelf

theorem slice_pre_eq {P : Program} {t e : TypeId} {size : Nat} (ht : P.underlying t = some (.slice e)) {w : World} {a : Option Addr} {n cap : Nat} {xs : List Value} (h : Row w (.slice a n cap) n size xs) {k : Nat} (hk : k ≤ n) (hp : a = none ∨ ∃ b o, a = some ⟨b, o, none⟩) (hsz : ∀ W, (sizeOf e).run P W = .ok size W) :
    (∀ W, (Instr.slice t (.slice a n cap) none (some (.int .i64 k)) none).run P W = .ok (.slice a k cap) W) ∧ ∀ W, Row W (.slice a n cap) n size xs → Row W (.slice a k cap) k size (xs.take (k * size)) := by
  obtain ⟨hl, a', cap', e', h1, h2, hc⟩ := h
  cases e'
  have hte : P.elem t = e := by simp [Program.elem, ht]
  have ht' : P.underlying t = some (.slice (P.elem t)) := by rw [hte]; exact ht
  refine ⟨fun W => ?_, fun W hW => ?_⟩
  · rw [run_slice_h (P := P) (w := W) t a n cap ht' .i64 (k : Int) (by omega) (by omega), hte, hsz]
    rcases hp with rfl | ⟨b, o, rfl⟩
    · simp [sliced, go_sem]
    · by_cases hz : cap = 0
      · simp [sliced, go_sem, hz]
      · simp [sliced, go_sem, Addr.add]
  · rcases hp with rfl | ⟨b, o, rfl⟩
    · rcases hc with rfl | ⟨_, _, e, _⟩
      · obtain rfl : n = 0 := by omega
        obtain rfl : k = 0 := by omega
        exact ⟨by simp, none, 0, rfl, by omega, by simp, .inl rfl⟩
      · cases e
    · exact row_pre hW hk
theorem gvs_take {α : Type} {f : α → List Value} {s : Nat} (hE : Enc f s) : ∀ (l : List α) (k : Nat), (gvs f l).take (k * s) = gvs f (l.take k)
  | [], k => by simp [gvs]
  | a :: l, 0 => by simp [gvs]
  | a :: l, k + 1 => by
    have ih := gvs_take hE l k
    have e : gvs f (a :: l) = f a ++ gvs f l := rfl
    have e2 : gvs f ((a :: l).take (k + 1)) = f a ++ gvs f (l.take k) := rfl
    rw [e, e2, ← ih, List.take_append, List.take_of_length_le (by rw [hE.len, Nat.succ_mul]; omega), hE.len, show (k + 1) * s - s = k * s by rw [Nat.succ_mul]; omega]
theorem sizeTag (W : World) : (sizeOf 90).run Tryz.prog W = .ok 2 W := by kernel_rfl
theorem tags_tail {w : World} {b o n cap : Nat} {x : Tag} {l : List Tag} (h : Tags w (.slice (some ⟨b, o, none⟩) n cap) (x :: l)) :
    ∃ v', (∀ W, (Instr.slice 49 (.slice (some ⟨b, o, none⟩) n cap) (some (.int .i64 1)) none none).run Tryz.prog W = .ok v' W) ∧ Tags w v' l ∧ ∀ j, v'.rb = some j → (Value.slice (some ⟨b, o, none⟩) n cap).rb = some j := by
  have e : n = (x :: l).length := by obtain ⟨a', c', e⟩ := GRow.shape h; injection e
  subst e
  obtain ⟨v', h1, h2, h3⟩ := slice_suf_off (P := Tryz.prog) Tryz.underlying49 h (k := 1) (by simp) (.inr ⟨_, _, rfl⟩) sizeTag
  refine ⟨v', h1, ?_, h3⟩
  have := h2 w h
  have e2 : (gvs tcells (x :: l)).drop (1 * 2) = gvs tcells l := rfl
  rw [e2] at this
  exact this
theorem tags_vlen {w : World} {v : Value} {l : List Tag} (h : Tags w v l) : vlen v = l.length := by obtain ⟨a, c, rfl⟩ := h.shape; rfl
def tvlen2 (a b : Value) : Nat := vlen a + vlen b
theorem tag_lit_cells (w : World) (t : Tag) : ∀ j u, (gvs tcells [t])[j]? = some u → (w.alloc (.cells #[.string (bs t.1), .int .i64 t.2] 90)).cell? ((⟨w.heap.size, 0, none⟩ : Addr).add j) = some u := by
  intro j u hj
  rw [Addr.add_lit, Nat.zero_add, World.cell?_alloc_new]
  simpa [gvs, tcells] using hj
/-- What stands between two rounds. -/
structure TI (w : World) (total : List Tag) (v0 v1 : Value) (l k : List Tag) (v5 : Value) (Y : List Tag) (W : World) : Prop where
  h0 : Tags w v0 l
  h1 : Tags w v1 k
  own : W.ownsRow w.heap.size 90 2 v5 Y.length (gvs tcells Y)
  p : Pure w W
  t : Y ++ tmrg l k = total
  n : Y.length + l.length + k.length ≤ 10000
section
variable {w W W' : World} {total : List Tag} {v0 v1 v5 v0' v1' v5' : Value} {l k Y : List Tag} {x y : Tag}
theorem TI.left (h : TI w total v0 v1 (x :: l) k v5 Y W) (hk : k = [] ∨ ∃ y k', k = y :: k' ∧ tlt x.1 y.1 = true) (ht : Tags w v0' l) (ho : W'.ownsRow w.heap.size 90 2 v5' (Y.length + 1) (gvs tcells (Y ++ [x]))) (hp : Pure w W') : TI w total v0' v1 l k v5' (Y ++ [x]) W' := by
  refine ⟨ht, h.h1, by rw [List.length_append]; exact ho, hp, ?_, ?_⟩
  · rw [← h.t, List.append_assoc]
    rcases hk with rfl | ⟨y, k', rfl, hd⟩
    · rw [tmrg_nil, tmrg_nil]; rfl
    · rw [tmrg, if_pos hd]; rfl
  · have := h.n
    simp only [List.length_cons, List.length_append, List.length_nil] at *; omega
theorem TI.right (h : TI w total v0 v1 l (y :: k) v5 Y W) (hl : l = [] ∨ ∃ x l', l = x :: l' ∧ tlt x.1 y.1 = false ∧ x.1 ≠ y.1) (ht : Tags w v1' k) (ho : W'.ownsRow w.heap.size 90 2 v5' (Y.length + 1) (gvs tcells (Y ++ [y]))) (hp : Pure w W') : TI w total v0 v1' l k v5' (Y ++ [y]) W' := by
  refine ⟨h.h0, ht, by rw [List.length_append]; exact ho, hp, ?_, ?_⟩
  · rw [← h.t, List.append_assoc]
    rcases hl with rfl | ⟨x, l', rfl, hd, hn⟩
    · rw [tmrg, tmrg]; rfl
    · rw [tmrg, if_neg (by simp [hd]), if_pos hn]; rfl
  · have := h.n
    simp only [List.length_cons, List.length_append, List.length_nil] at *; omega
theorem TI.mid (h : TI w total v0 v1 (x :: l) (y :: k) v5 Y W) (hd : tlt x.1 y.1 = false) (hn : x.1 = y.1) (ht : Tags w v0' l) (ht1 : Tags w v1' k) (ho : W'.ownsRow w.heap.size 90 2 v5' (Y.length + 1) (gvs tcells (Y ++ [(x.1, max x.2 y.2)]))) (hp : Pure w W') : TI w total v0' v1' l k v5' (Y ++ [(x.1, max x.2 y.2)]) W' := by
  refine ⟨ht, ht1, by rw [List.length_append]; exact ho, hp, ?_, ?_⟩
  · rw [← h.t, List.append_assoc, tmrg, if_neg (by simp [hd]), if_neg (by simpa using hn)]; rfl
  · have := h.n
    simp only [List.length_cons, List.length_append, List.length_nil] at *; omega
theorem TI.end_ (h : TI w total v0 v1 [] [] v5 Y W) : Y = total := by rw [← h.t, tmrg]; simp
end
def TagO (w : World) (l : List Tag) (e : Ending) (w' : World) : Prop := ∃ v, e = .returned v ∧ Tags w' v l ∧ (∀ k, v.rb = some k → w.heap.size ≤ k) ∧ Pure w w'
set_option maxRecDepth 8000 in
set_option maxHeartbeats 8000000 in
theorem tjoin_any (v0 v1 : Value) (l0 k0 : List Tag) (w : World) (h0 : Tags w v0 l0) (h1 : Tags w v1 k0) (hn : l0.length + k0.length ≤ 10000) :
    Calls Tryz.prog 94 #[v0, v1] w (TagO w (tjoin l0 k0)) := by
  obtain ⟨a0, c0, rfl⟩ := h0.shape
  obtain ⟨b0, z0, rfl⟩ := h1.shape
  have Hst := hid (show TI w (tmrg l0 k0) (.slice a0 l0.length c0) (.slice b0 k0.length z0) l0 k0 (.slice none 0 0) [] w from ⟨h0, h1, World.ownsRow_nil _ _ _ _, Below.refl _ _, rfl, by simpa using hn⟩)
  have Hj := hid (show tjoin l0 k0 = (tmrg l0 k0).take 100 from rfl)
  obtain ⟨i0, hi, hi0, hi1, hi2⟩ := info_parts infoTag
  clear h0 h1 hn
  generalize tjoin l0 k0 = R at *
  generalize tmrg l0 k0 = total at *
  go_enter Tryz.func94, Tryz.ntmps94
  go_wp2_with fail
  go_step3
  go_wp2_with fail
  go_step3
  go_wp2_with fail
  go_loopw [0, 1, 5] (fun v0 v1 v5 wr => ∃ l k Y, TI w total v0 v1 l k v5 Y wr) (fun v0 v1 _ _ => tvlen2 v0 v1)
  case atStart => exact ⟨l0, k0, [], Hst.out⟩
  case round =>
    obtain ⟨l, k, Y, hI⟩ := hrel
    have HI := hid hI
    obtain ⟨a0, c0, rfl⟩ := hI.h0.shape
    obtain ⟨a1, c1, rfl⟩ := hI.h1.shape
    obtain ⟨a5, c5, rfl⟩ := own_shape_d hI.own
    have hn := hI.n
    have h0 := (show Tags wr _ l from Row.pure hI.h0 hI.p)
    have h1 := (show Tags wr _ k from Row.pure hI.h1 hI.p)
    have hY : Y.length ≤ 10000 := by omega
    have hyy : (0 : Int) ≤ (Y.length : Int) := by omega
    clear hI
    rcases l with _ | ⟨x, l⟩ <;> rcases k with _ | ⟨y, k⟩
    · have hT := HI.out.end_
      subst hT
      have hn0 : (([] : List Tag).length : Int) = 0 := rfl
      clear h0 h1 hn
      simp only [List.length_nil] at *
      have hmin : min (Y.length : Int) 100 = ((min Y.length 100 : Nat) : Int) := by omega
      obtain ⟨hV, hVr⟩ := slice_pre_eq (P := Tryz.prog) Tryz.underlying49 (Row.of_own HI.out.own) (k := min Y.length 100) (by omega) (by rcases own_plain_d HI.out.own with ⟨p, c, e, h⟩; injection e with e1 e2 e3; subst e1; exact h) sizeTag
      rw [← hmin] at hV
      have HVr := hid (show Tags wr (.slice a5 (min Y.length 100) c5) (Y.take 100) from by
        have := hVr wr (Row.of_own HI.out.own)
        rw [gvs_take tenc] at this
        have e : Y.take (min Y.length 100) = Y.take 100 := by
          rcases Nat.le_total Y.length 100 with h | h
          · rw [Nat.min_eq_left h, List.take_of_length_le (Nat.le_refl _), List.take_of_length_le h]
          · rw [Nat.min_eq_right h]
        rw [e] at this
        have e2 : (Y.take 100).length = min Y.length 100 := by rw [List.length_take, Nat.min_comm]
        show Row _ _ _ _ _
        rw [e2]; exact this)
      have Hf := hid (show ∀ j, (Value.slice a5 (min Y.length 100) c5).rb = some j → w.heap.size ≤ j from fun j hj => (HI.out.own.lt j (by
        unfold Value.rb at hj
        unfold Value.ownBlock
        cases a5 with
        | none => cases hj
        | some ad => dsimp only at hj ⊢; split at hj <;> simp_all)).1)
      have hle : min Y.length 100 ≤ c5 := by
        obtain ⟨_, a', c', e, h1, _⟩ := Row.of_own HI.out.own
        cases e; omega
      clear hVr
      go_wp2
      go_ret
      exact ⟨.slice a5 (min Y.length 100) c5, rfl, by rw [Hj.out]; exact HVr.out, Hf.out, HI.out.p⟩
    · obtain ⟨b1, o1, e, -, y0, y1⟩ := Tags.get (k := 0) h1 (by simp)
      subst e
      obtain ⟨v1', hv1, ht1, -⟩ := tags_tail HI.out.h1
      have Ht1 := hid ht1
      obtain ⟨ys, yn⟩ := y
      simp only [List.getD_cons_zero, Nat.zero_mul, Nat.add_zero] at y0 y1
      have hm1 : vlen v1' = k.length := tags_vlen Ht1.out
      have hg1 : ((ys, yn) :: k).length = k.length + 1 := List.length_cons
      rw [hg1] at hv1 HI hn ⊢
      have hp1 : ((k.length : Int) + 1) > 0 := by omega
      have hz1 : ¬ ((k.length : Int) + 1) = 0 := by omega
      have hy1 : (((k.length : Int) + 1) == 0) = false := by simpa using hz1
      clear ht1 hg1 h1
      simp only [List.length_nil] at *
      clear h0
      go_wp2_with fail
      go_quiet (fail)
      obtain ⟨wp, hwp⟩ : ∃ W, W = wr.drewN nq := ⟨_, rfl⟩
      have H1 := hid (show Pure wr wp from by rw [hwp]; exact pure_drewN _ _)
      have Hs1 := hid (show Pure wr wp from by rw [hwp]; exact pure_drewN _ _)
      rw [← hwp]
      clear hwp
      have y0 := pat Hs1.out y0
      have y1 := pat Hs1.out y1
      go_wp2_with fail
      go_quiet (fail)
      obtain ⟨wq, hwq⟩ : ∃ W, W = wp.drewN nq := ⟨_, rfl⟩
      have H2 := hid (show Pure wr wq from by rw [hwq]; exact H1.out.then_ (pure_drewN _ _))
      have Hs2 := hid (show Pure wp wq from by rw [hwq]; exact pure_drewN _ _)
      rw [← hwq]
      clear hwq
      have y0 := pat Hs2.out y0
      have y1 := pat Hs2.out y1
      go_wp2_with (at_builtin; refine wpList_append_tags rfl _ _ rfl w.heap.size _ Y Y.length rfl ((own_pure HI.out.own H2.out).alloc _) _ [(ys, yn)] 1 rfl (tags_lit _ (ys, yn)) (by omega) (by have := HI.out.p.size; have := (show Pure wr _ from H2.out).size; simp; omega) ?_)
      intro v8 w8 hown8 hg8
      have Hp8 := hid (((HI.out.p.then_ H2.out).alloc (by have := HI.out.p.size; have := (show Pure wr _ from H2.out).size; omega) _).grown hg8 (by have := HI.out.p.size; have := (show Pure wr _ from H2.out).size; simp; omega) (fun j hj => (HI.out.own.lt j hj).1))
      have Hown8 := hid hown8
      obtain ⟨a8, c8, rfl⟩ := own_shape_d hown8
      clear hown8 hg8
      go_wp2
      go_roundw
      case rel => exact ⟨[], k, _, HI.out.right (.inl rfl) Ht1.out Hown8.out Hp8.out⟩
      case measure => have : vlen (Value.slice (some ⟨b1, o1, none⟩) (k.length + 1) c1) = k.length + 1 := rfl; simp only [tvlen2]; omega
    · obtain ⟨b0, o0, e, -, x0, x1⟩ := Tags.get (k := 0) h0 (by simp)
      subst e
      obtain ⟨v0', hv0, ht0, -⟩ := tags_tail HI.out.h0
      have Ht0 := hid ht0
      obtain ⟨xs, xn⟩ := x
      simp only [List.getD_cons_zero, Nat.zero_mul, Nat.add_zero] at x0 x1
      have hm0 : vlen v0' = l.length := tags_vlen Ht0.out
      have hg0 : ((xs, xn) :: l).length = l.length + 1 := List.length_cons
      rw [hg0] at hv0 HI hn ⊢
      have hp0 : ((l.length : Int) + 1) > 0 := by omega
      have hz0 : ¬ ((l.length : Int) + 1) = 0 := by omega
      have hy0 : (((l.length : Int) + 1) == 0) = false := by simpa using hz0
      clear ht0 hg0 h0
      simp only [List.length_nil] at *
      clear h1
      go_wp2_with fail
      go_quiet (fail)
      obtain ⟨wp, hwp⟩ : ∃ W, W = wr.drewN nq := ⟨_, rfl⟩
      have H1 := hid (show Pure wr wp from by rw [hwp]; exact pure_drewN _ _)
      have Hs1 := hid (show Pure wr wp from by rw [hwp]; exact pure_drewN _ _)
      rw [← hwp]
      clear hwp
      have x0 := pat Hs1.out x0
      have x1 := pat Hs1.out x1
      go_wp2_with (at_builtin; refine wpList_append_tags rfl _ _ rfl w.heap.size _ Y Y.length rfl ((own_pure HI.out.own H1.out).alloc _) _ [(xs, xn)] 1 rfl (tags_lit _ (xs, xn)) (by omega) (by have := HI.out.p.size; have := (show Pure wr _ from H1.out).size; simp; omega) ?_)
      intro v8 w8 hown8 hg8
      have Hp8 := hid (((HI.out.p.then_ H1.out).alloc (by have := HI.out.p.size; have := (show Pure wr _ from H1.out).size; omega) _).grown hg8 (by have := HI.out.p.size; have := (show Pure wr _ from H1.out).size; simp; omega) (fun j hj => (HI.out.own.lt j hj).1))
      have Hown8 := hid hown8
      obtain ⟨a8, c8, rfl⟩ := own_shape_d hown8
      clear hown8 hg8
      go_wp2
      go_roundw
      case rel => exact ⟨l, [], _, HI.out.left (.inl rfl) Ht0.out Hown8.out Hp8.out⟩
      case measure => have : vlen (Value.slice (some ⟨b0, o0, none⟩) (l.length + 1) c0) = l.length + 1 := rfl; simp only [tvlen2]; omega
    · obtain ⟨b0, o0, e, -, x0, x1⟩ := Tags.get (k := 0) h0 (by simp)
      subst e
      obtain ⟨v0', hv0, ht0, -⟩ := tags_tail HI.out.h0
      have Ht0 := hid ht0
      obtain ⟨xs, xn⟩ := x
      simp only [List.getD_cons_zero, Nat.zero_mul, Nat.add_zero] at x0 x1
      have hm0 : vlen v0' = l.length := tags_vlen Ht0.out
      have hg0 : ((xs, xn) :: l).length = l.length + 1 := List.length_cons
      rw [hg0] at hv0 HI hn ⊢
      have hp0 : ((l.length : Int) + 1) > 0 := by omega
      have hz0 : ¬ ((l.length : Int) + 1) = 0 := by omega
      have hy0 : (((l.length : Int) + 1) == 0) = false := by simpa using hz0
      clear ht0 hg0 h0
      obtain ⟨b1, o1, e, -, y0, y1⟩ := Tags.get (k := 0) h1 (by simp)
      subst e
      obtain ⟨v1', hv1, ht1, -⟩ := tags_tail HI.out.h1
      have Ht1 := hid ht1
      obtain ⟨ys, yn⟩ := y
      simp only [List.getD_cons_zero, Nat.zero_mul, Nat.add_zero] at y0 y1
      have hm1 : vlen v1' = k.length := tags_vlen Ht1.out
      have hg1 : ((ys, yn) :: k).length = k.length + 1 := List.length_cons
      rw [hg1] at hv1 HI hn ⊢
      have hp1 : ((k.length : Int) + 1) > 0 := by omega
      have hz1 : ¬ ((k.length : Int) + 1) = 0 := by omega
      have hy1 : (((k.length : Int) + 1) == 0) = false := by simpa using hz1
      clear ht1 hg1 h1
      have hcm := hid (cmps_any xs ys)
      have hD := tlt_cmp xs ys
      have HLt := hid (fun (e : tlt xs ys = true) => e)
      generalize Lib.compareBytes xs ys = cA at *
      by_cases hcA : cA < 0
      · have hc1 : decide (cA < 0) = true := decide_eq_true hcA
        have HT := hid (show tlt xs ys = true from by rw [hD, hc1])
        clear hD HLt hcA
        go_wp2_with fail
        go_quiet ((go_at_call 148; exact Calls.quiet_of_same (hcm.out _)))
        obtain ⟨wp, hwp⟩ : ∃ W, W = wr.drewN nq := ⟨_, rfl⟩
        have H1 := hid (show Pure wr wp from by rw [hwp]; exact pure_drewN _ _)
        have Hs1 := hid (show Pure wr wp from by rw [hwp]; exact pure_drewN _ _)
        rw [← hwp]
        clear hwp
        have x0 := pat Hs1.out x0
        have x1 := pat Hs1.out x1
        go_wp2_with (at_builtin; refine wpList_append_tags rfl _ _ rfl w.heap.size _ Y Y.length rfl ((own_pure HI.out.own H1.out).alloc _) _ [(xs, xn)] 1 rfl (tags_lit _ (xs, xn)) (by omega) (by have := HI.out.p.size; have := (show Pure wr _ from H1.out).size; simp; omega) ?_)
        intro v8 w8 hown8 hg8
        have Hp8 := hid (((HI.out.p.then_ H1.out).alloc (by have := HI.out.p.size; have := (show Pure wr _ from H1.out).size; omega) _).grown hg8 (by have := HI.out.p.size; have := (show Pure wr _ from H1.out).size; simp; omega) (fun j hj => (HI.out.own.lt j hj).1))
        have Hown8 := hid hown8
        obtain ⟨a8, c8, rfl⟩ := own_shape_d hown8
        clear hown8 hg8
        go_wp2
        go_roundw
        case rel => exact ⟨l, (ys, yn) :: k, _, HI.out.left (.inr ⟨_, _, rfl, HT.out⟩) Ht0.out Hown8.out Hp8.out⟩
        case measure => have : vlen (Value.slice (some ⟨b0, o0, none⟩) (l.length + 1) c0) = l.length + 1 := rfl; simp only [tvlen2]; omega
      · have hc1 : decide (cA < 0) = false := decide_eq_false hcA
        have HT := hid (show tlt xs ys = false from by rw [hD, hc1])
        clear hD HLt hcA
        by_cases hE : xs = ys
        · have he1 : ((bs xs).toList != (bs ys).toList) = false := by rw [hE]; simp
          have he2 : ((bs xs).toList == (bs ys).toList) = true := by rw [hE]; simp
          have HE := hid hE
          clear hE
          go_wp2_with fail
          go_quiet ((go_at_call 148; exact Calls.quiet_of_same (hcm.out _)))
          obtain ⟨wp, hwp⟩ : ∃ W, W = wr.drewN nq := ⟨_, rfl⟩
          have H1 := hid (show Pure wr wp from by rw [hwp]; exact pure_drewN _ _)
          have Hs1 := hid (show Pure wr wp from by rw [hwp]; exact pure_drewN _ _)
          rw [← hwp]
          clear hwp
          have x0 := pat Hs1.out x0
          have x1 := pat Hs1.out x1
          have y0 := pat Hs1.out y0
          have y1 := pat Hs1.out y1
          go_wp2_with fail
          go_quiet (fail)
          obtain ⟨wq, hwq⟩ : ∃ W, W = wp.drewN nq := ⟨_, rfl⟩
          have H2 := hid (show Pure wr wq from by rw [hwq]; exact H1.out.then_ (pure_drewN _ _))
          have Hs2 := hid (show Pure wp wq from by rw [hwq]; exact pure_drewN _ _)
          rw [← hwq]
          clear hwq
          have x0 := pat Hs2.out x0
          have x1 := pat Hs2.out x1
          have y0 := pat Hs2.out y0
          have y1 := pat Hs2.out y1
          have Hdr := hid (show Pure wr wq.drew from H2.out.then_ (Below.refl _ _).drew)
          have hgr := hid (fun (v' : Value) (w' : World) (h1 : w'.ownsRow w.heap.size 90 2 v' (Y.length + 1) (gvs tcells Y ++ gvs tcells [((xs, max xn yn) : Tag)])) (h2 : (wq.drew.alloc (.cells #[.string (bs xs), .int .i64 (max xn yn)] 90)).grownBy w' (Value.slice a5 Y.length c5).ownBlock) => (show w'.ownsRow w.heap.size 90 2 v' (Y.length + 1) (gvs tcells (Y ++ [(xs, max xn yn)])) ∧ Pure w w' from
            ⟨by rw [gvs_append]; exact h1, ((HI.out.p.then_ Hdr.out).alloc (by have := HI.out.p.size; have := Hdr.out.size; omega) _).grown h2 (by have := HI.out.p.size; have := Hdr.out.size; simp at *; omega) (fun j hj => (HI.out.own.lt j hj).1)⟩))
          go_wp2_with fail
          go_region_law (refine step_append_own rfl (.tmp 64) (.tmp 79) 49 rfl w.heap.size 90 i0 (.agg #[.string ⟨#[]⟩, .int .i64 0]) 2 24 Tryz.underlying49 hi hi0 hi1 hi2 rfl (by decide) (.slice a5 Y.length c5) Y.length (gvs tcells Y) (by simp [Act.eval]) (World.ownsRow.alloc (own_pure HI.out.own Hdr.out) _) ⟨wq.heap.size, 0, none⟩ 1 1 (gvs tcells [((xs, max xn yn) : Tag)]) (by simp [Act.eval]) rfl (tag_lit_cells wq.drew (xs, max xn yn)) (gvs_cells tenc _) (by unfold maxLen; omega) (by omega) (by have := HI.out.p.size; have := Hdr.out.size; simp at *; omega) ?_; intro v' w' hown' hg'; obtain ⟨ho', hp'⟩ := hgr.out v' w' hown' hg'; obtain ⟨a8, c8, rfl⟩ := own_shape_d hown'; have Ho8 := hid ho'; have Hp8 := hid hp'; clear hown' hg' ho' hp')
          all_goals
            clear x0 x1 y0 y1 hgr
            go_wp2_with fail
            go_quiet (fail)
            have Ho9 := hid (own_pure Ho8.out (pure_drewN _ nq))
            have Hp9 := hid (Hp8.out.then_ (pure_drewN _ nq))
            go_wp2
            go_roundw
            (case rel => exact ⟨l, k, _, HI.out.mid HT.out HE.out Ht0.out Ht1.out Ho9.out Hp9.out⟩)
            (case measure => have : vlen (Value.slice (some ⟨b0, o0, none⟩) (l.length + 1) c0) = l.length + 1 := rfl; have : vlen (Value.slice (some ⟨b1, o1, none⟩) (k.length + 1) c1) = k.length + 1 := rfl; simp only [tvlen2]; omega)
        · have he1 : ((bs xs).toList != (bs ys).toList) = true := by rw [bne, bs_beq9, decide_eq_false hE]; rfl
          have he2 : ((bs xs).toList == (bs ys).toList) = false := by rw [bs_beq9, decide_eq_false hE]
          have HE := hid hE
          clear hE
          go_wp2_with fail
          go_quiet ((go_at_call 148; exact Calls.quiet_of_same (hcm.out _)))
          obtain ⟨wp, hwp⟩ : ∃ W, W = wr.drewN nq := ⟨_, rfl⟩
          have H1 := hid (show Pure wr wp from by rw [hwp]; exact pure_drewN _ _)
          have Hs1 := hid (show Pure wr wp from by rw [hwp]; exact pure_drewN _ _)
          rw [← hwp]
          clear hwp
          have x0 := pat Hs1.out x0
          have x1 := pat Hs1.out x1
          have y0 := pat Hs1.out y0
          have y1 := pat Hs1.out y1
          go_wp2_with fail
          go_quiet (fail)
          obtain ⟨wq, hwq⟩ : ∃ W, W = wp.drewN nq := ⟨_, rfl⟩
          have H2 := hid (show Pure wr wq from by rw [hwq]; exact H1.out.then_ (pure_drewN _ _))
          have Hs2 := hid (show Pure wp wq from by rw [hwq]; exact pure_drewN _ _)
          rw [← hwq]
          clear hwq
          have y0 := pat Hs2.out y0
          have y1 := pat Hs2.out y1
          go_wp2_with (at_builtin; refine wpList_append_tags rfl _ _ rfl w.heap.size _ Y Y.length rfl ((own_pure HI.out.own H2.out).alloc _) _ [(ys, yn)] 1 rfl (tags_lit _ (ys, yn)) (by omega) (by have := HI.out.p.size; have := (show Pure wr _ from H2.out).size; simp; omega) ?_)
          intro v8 w8 hown8 hg8
          have Hp8 := hid (((HI.out.p.then_ H2.out).alloc (by have := HI.out.p.size; have := (show Pure wr _ from H2.out).size; omega) _).grown hg8 (by have := HI.out.p.size; have := (show Pure wr _ from H2.out).size; simp; omega) (fun j hj => (HI.out.own.lt j hj).1))
          have Hown8 := hid hown8
          obtain ⟨a8, c8, rfl⟩ := own_shape_d hown8
          clear hown8 hg8
          go_wp2
          go_roundw
          case rel => exact ⟨(xs, xn) :: l, k, _, HI.out.right (.inr ⟨_, _, rfl, HT.out, HE.out⟩) Ht1.out Hown8.out Hp8.out⟩
          case measure => have : vlen (Value.slice (some ⟨b1, o1, none⟩) (k.length + 1) c1) = k.length + 1 := rfl; simp only [tvlen2]; omega
end Go.Proofs.YtdlpnhfgjficgaaGreat
