/- ref07's number, with, Join. -/
import Derived.Test.YtdlpnhfgjficgaaGreatEG
import Derived.Test.YtdlpnhfgjficgaaGreatMX7
namespace Go.Proofs.YtdlpnhfgjficgaaGreat
open Go.RowKit Go.Maps Go.Shelf

theorem tnum_hit {l : List Tag} {s : List UInt8} {k : Nat} (hk : k < l.length) (hn : ∀ t ∈ l.take k, t.1 ≠ s) (h : (l.getD k t0).1 = s) : tnum l s = (l.getD k t0).2 := by
  have e : l = l.take k ++ l.drop k := (List.take_append_drop k l).symm
  have h1 : tget (l.take k) s = none := kget_none.2 hn
  have h2 : tget l s = some (l.getD k t0) := by
    conv => lhs; rw [e]
    show kget _ _ _ = _
    rw [kget_append, drop_g t0 l k hk, kget_cons, if_pos h]
    rw [show kget (fun t : Tag => t.1) (l.take k) s = none from h1]; rfl
  unfold tnum
  rw [h2]
theorem tnum_miss {l : List Tag} {s : List UInt8} (hn : ∀ t ∈ l, t.1 ≠ s) : tnum l s = 0 := by
  have h1 : tget l s = none := kget_none.2 hn
  unfold tnum
  rw [h1]
set_option maxRecDepth 8000 in
set_option maxHeartbeats 2000000 in
theorem rtnum_any (v : Value) (l : List Tag) (s : List UInt8) (w : World) (hr : Tags w v l) (hl : l.length ≤ 100000) :
    Calls Tryz.prog 117 #[v, .string (bs s)] w fun e w' => e = .returned (.int .i64 (tnum l s)) ∧ w = w' := by
  obtain ⟨a, cap, rfl⟩ := hr.shape
  have Hr := hid hr
  have Hhit := hid (fun k (hk : k < l.length) (hn : ∀ t ∈ l.take k, t.1 ≠ s) (h : (l.getD k t0).1 = s) => tnum_hit hk hn h)
  have Hmiss := hid (fun (hn : ∀ t ∈ l, t.1 ≠ s) => tnum_miss hn)
  generalize tnum l s = R at *
  clear hr
  go_enter Tryz.func117, Tryz.ntmps117
  go_wp2
  go_loop [5] (fun i => ∃ k : Nat, k ≤ l.length ∧ i = .int .i64 k ∧ ∀ t ∈ l.take k, t.1 ≠ s) (fun i => l.length - (RowKit.intOf i).toNat)
  case atStart => exact ⟨0, Nat.zero_le _, rfl, by simp⟩
  case round =>
    obtain ⟨k, hk, rfl, hn⟩ := hrel
    have Hn := hid hn
    clear hn
    by_cases hlt : k < l.length
    · have hlt' : (k : Int) < (l.length : Int) := by omega
      obtain ⟨b, off, rfl, hb, x0, x1⟩ := Tags.get Hr.out hlt
      have Hh := hid (Hhit.out k hlt Hn.out)
      have Htk := hid (take_succ_g t0 l k hlt)
      generalize l.getD k t0 = z at *
      obtain ⟨zs, zn⟩ := z
      dsimp only at x0 x1 Hh
      by_cases he : zs = s
      · subst he
        have HR := hid (Hh.out rfl)
        have hbt : ((bs zs).toList == (bs zs).toList) = true := by simp
        go_wp2
        go_ret
        exact ⟨by rw [HR.out]; rfl, rfl⟩
      · have hbt : ((bs zs).toList == (bs s).toList) = false := by
          rw [beq_eq_false_iff_ne, Ne, bs_listt, bs_listt]; exact he
        have hbt2 : ¬ (bs zs).toList = (bs s).toList := by rw [bs_listt, bs_listt]; exact he
        have He := hid he
        clear he
        go_wp2
        go_round
        case rel => exact ⟨k + 1, by omega, by go_num, by rw [Htk.out]; intro t ht; rcases List.mem_append.1 ht with h | h; exact Hn.out t h; simp only [List.mem_singleton] at h; subst h; exact He.out⟩
        case measure => simp [RowKit.intOf]; omega
    · obtain rfl : k = l.length := by omega
      have hlt' : ¬ (l.length : Int) < (l.length : Int) := by omega
      have HR := hid (Hmiss.out (by have := Hn.out; rwa [List.take_length] at this))
      go_wp2
      go_ret
      exact ⟨by rw [HR.out]; rfl, rfl⟩
def TagsF (w : World) (l : List Tag) (e : Ending) (w' : World) : Prop := ∃ v', e = .returned v' ∧ w'.ownsRow w.heap.size 90 2 v' l.length (gvs tcells l) ∧ Pure w w'
set_option maxRecDepth 8000 in
set_option maxHeartbeats 4000000 in
theorem rtwith_any (v : Value) (l : List Tag) (s : List UInt8) (n : Int) (w : World) (hr : Tags w v l) (hl : l.length ≤ 100000) :
    Calls Tryz.prog 118 #[v, .string (bs s), .int .i64 n] w (TagsF w (twith l s n)) := by
  obtain ⟨a, cap, rfl⟩ := hr.shape
  have Hr := hid (fun W (hW : Pure w W) => (show Tags W (.slice a l.length cap) l from Row.pure hr hW))
  have Htw := hid (show ∀ p (z : Tag) (r : List Tag), twr s n p (z :: r) = (if !p && !tlt z.1 s then [(s, n)] else []) ++ ((if z.1 = s then [] else [z]) ++ twr s n (p || !tlt z.1 s) r) from fun _ _ _ => rfl)
  have Htn := hid (show ∀ p, twr s n p [] = if p then [] else [(s, n)] from fun _ => rfl)
  have Hst := hid (show ([] : List Tag) ++ twr s n false (l.drop 0) = twith l s n from rfl)
  generalize twith l s n = R at *
  clear hr
  go_enter Tryz.func118, Tryz.ntmps118
  go_wp2
  go_loopw [7, 8, 9] (fun o d i wr => ∃ (k : Nat) (Y : List Tag) (p : Bool), k ≤ l.length ∧ i = .int .i64 k ∧ d = .bool p ∧ Y ++ twr s n p (l.drop k) = R ∧ Y.length ≤ 2 * k ∧ wr.ownsRow w.heap.size 90 2 o Y.length (gvs tcells Y) ∧ Pure w wr) (fun _ _ i _ => l.length - (RowKit.intOf i).toNat)
  case atStart => exact ⟨0, [], false, Nat.zero_le _, rfl, rfl, Hst.out, Nat.le_refl _, World.ownsRow_nil _ _ _ _, Below.refl _ _⟩
  case round =>
    obtain ⟨k, Y, p, hk, rfl, rfl, hY, hYl, hown, hp⟩ := hrel
    obtain ⟨a3, c3, rfl⟩ := own_shape_d hown
    have HO := hid hown
    have HP := hid hp
    have HY := hid hY
    clear hown hp hY
    by_cases hlt : k < l.length
    · have hlt' : (k : Int) < (l.length : Int) := by omega
      obtain ⟨b, off, rfl, -, x0, x1⟩ := Tags.get (Hr.out wr HP.out) hlt
      have Hcell := hid (fun W (hW : Pure w W) => (show W.cell? ⟨b, off + k * 2, none⟩ = some (.string (bs (l.getD k t0).1)) ∧ W.cell? ⟨b, off + k * 2 + 1, none⟩ = some (.int .i64 (l.getD k t0).2) from by
        obtain ⟨b', off', e', -, y0, y1⟩ := Tags.get (Hr.out W hW) hlt
        cases e'; exact ⟨y0, y1⟩))
      have Hd := hid (drop_g t0 l k hlt)
      generalize l.getD k t0 = z at *
      obtain ⟨zs, zn⟩ := z
      dsimp only at x0 x1 Hcell
      have HE := hid (show Y ++ ((if !p && !tlt zs s then [(s, n)] else []) ++ ((if zs = s then [] else [(zs, zn)]) ++ twr s n (p || !tlt zs s) (l.drop (k + 1)))) = R from by
        rw [← HY.out, Hd.out, Htw.out])
      have hbl : Op.bytesLess (bs zs).toList (bs s).toList = tlt zs s := by rw [bs_listt, bs_listt]; rfl
      generalize tlt zs s = T at *
      have hcase : (p = false ∧ T = false) ∨ p = true ∨ (p = false ∧ T = true) := by cases p <;> cases T <;> simp
      rcases hcase with ⟨rfl, rfl⟩ | rfl | ⟨rfl, rfl⟩
      case' inl =>
        have hs6 : w.heap.size ≤ (wr.alloc (.cells #[.string (bs s), .int .i64 n] 90)).heap.size := by have := HP.out.size; simp; omega
        go_wp2_with (at_builtin; refine wpList_append_tags rfl _ _ rfl w.heap.size _ Y Y.length rfl (World.ownsRow.alloc HO.out _) _ [(s, n)] 1 rfl (tags_lit wr (s, n)) (by omega) hs6 ?_)
        intro v5 w5 hown5 hg5
        have HP5 := hid ((HP.out.alloc HP.out.size (.cells #[.string (bs s), .int .i64 n] 90)).grown hg5 hs6 (fun k hk => (HO.out.lt k hk).1))
        obtain ⟨YY, hYY⟩ : ∃ YY, YY = Y ++ [(s, n)] := ⟨_, rfl⟩
        have HO5 := hid (show w5.ownsRow w.heap.size 90 2 v5 YY.length (gvs tcells YY) from by rw [hYY, List.length_append]; exact hown5)
        have HE5 := hid (show YY ++ ((if zs = s then [] else [(zs, zn)]) ++ twr s n true (l.drop (k + 1))) = R from by have := HE.out; rw [hYY, List.append_assoc]; exact this)
        have hl5 : YY.length ≤ 2 * k + 1 := by rw [hYY, List.length_append]; simp; omega
        obtain ⟨a5, c5, rfl⟩ := own_shape_d HO5.out
        have HYY := hid hYY
        clear hown5 hg5 hs6 x0 x1 hYY
        obtain ⟨x0, x1⟩ := Hcell.out w5 HP5.out
      case' inr.inl =>
        have HP5 := hid HP.out
        have HO5 := hid HO.out
        have HE5 := hid (show Y ++ ((if zs = s then [] else [(zs, zn)]) ++ twr s n true (l.drop (k + 1))) = R from by have := HE.out; simpa using this)
        have hl5 : Y.length ≤ 2 * k + 1 := by omega
        generalize Y = YY at *
      case' inr.inr =>
        have HP5 := hid HP.out
        have HO5 := hid HO.out
        have HE5 := hid (show Y ++ ((if zs = s then [] else [(zs, zn)]) ++ twr s n false (l.drop (k + 1))) = R from by have := HE.out; simpa using this)
        have hl5 : Y.length ≤ 2 * k + 1 := by omega
        generalize Y = YY at *
      all_goals
        by_cases he : zs = s
        · have HF := hid (show YY ++ twr s n _ (l.drop (k + 1)) = R from by have := HE5.out; rwa [if_pos he, List.nil_append] at this)
          subst he
          have hbt : ((bs zs).toList == (bs zs).toList) = true := by simp
          go_wp2
          go_roundw
          case rel => exact ⟨k + 1, YY, _, by omega, by go_num, rfl, HF.out, by omega, HO5.out, HP5.out⟩
          case measure => simp [RowKit.intOf]; omega
        · have HF := hid (show (YY ++ [(zs, zn)]) ++ twr s n _ (l.drop (k + 1)) = R from by have := HE5.out; rw [if_neg he] at this; rw [List.append_assoc]; exact this)
          have hbt : ((bs zs).toList == (bs s).toList) = false := by
            rw [beq_eq_false_iff_ne, Ne, bs_listt, bs_listt]; exact he
          have hbt2 : ¬ (bs zs).toList = (bs s).toList := by rw [bs_listt, bs_listt]; exact he
          have hs7 := hid (fun (W : World) (hW : Pure w W) (o : Obj) => (show w.heap.size ≤ (W.alloc o).heap.size by have := hW.size; simp; omega))
          clear he
          go_wp2_with (at_builtin; refine wpList_append_tags rfl _ _ rfl w.heap.size _ YY YY.length rfl (World.ownsRow.alloc HO5.out _) _ [(zs, zn)] 1 rfl (tags_lit _ (zs, zn)) (by omega) (hs7.out _ HP5.out _) ?_)
          intro v6 w6 hown6 hg6
          have HP6 := hid ((HP5.out.alloc HP5.out.size (.cells #[.string (bs zs), .int .i64 zn] 90)).grown hg6 (hs7.out _ HP5.out _) (fun k hk => (HO5.out.lt k hk).1))
          have HO6 := hid (show w6.ownsRow w.heap.size 90 2 v6 (YY ++ [(zs, zn)]).length (gvs tcells (YY ++ [(zs, zn)])) from by rw [List.length_append]; exact hown6)
          clear hown6 hg6
          go_wp2
          go_roundw
          case rel => exact ⟨k + 1, YY ++ [(zs, zn)], _, by omega, by go_num, rfl, HF.out, by rw [List.length_append]; simp; omega, HO6.out, HP6.out⟩
          case measure => simp [RowKit.intOf]; omega
    · obtain rfl : k = l.length := by omega
      have hlt' : ¬ (l.length : Int) < (l.length : Int) := by omega
      have HF := hid (show Y ++ (if p then [] else [(s, n)]) = R from by have := HY.out; rwa [List.drop_length, Htn.out] at this)
      cases p with
      | true =>
        have HR := hid (show Y = R from by have := HF.out; simpa using this)
        go_wp2
        go_ret
        exact ⟨_, rfl, by rw [← HR.out]; exact HO.out, HP.out⟩
      | false =>
        have HR := hid (show Y ++ [(s, n)] = R from by have := HF.out; simpa using this)
        have hs6 : w.heap.size ≤ (wr.alloc (.cells #[.string (bs s), .int .i64 n] 90)).heap.size := by have := HP.out.size; simp; omega
        go_wp2_with (at_builtin; refine wpList_append_tags rfl _ _ rfl w.heap.size _ Y Y.length rfl (World.ownsRow.alloc HO.out _) _ [(s, n)] 1 rfl (tags_lit wr (s, n)) (by omega) hs6 ?_)
        intro v5 w5 hown5 hg5
        have HP5 := hid ((HP.out.alloc HP.out.size (.cells #[.string (bs s), .int .i64 n] 90)).grown hg5 hs6 (fun k hk => (HO.out.lt k hk).1))
        have HO5 := hid (show w5.ownsRow w.heap.size 90 2 v5 R.length (gvs tcells R) from by rw [← HR.out, List.length_append]; exact hown5)
        clear hown5 hg5 hs6
        go_wp2
        go_ret
        exact ⟨_, rfl, HO5.out, HP5.out⟩
end Go.Proofs.YtdlpnhfgjficgaaGreat
