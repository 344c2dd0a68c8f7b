/- ref03: Sort. -/
import Derived.Test.YtofengnbedebpaaDot4
namespace Go.Proofs.Ytofengnbedebpaa
open Go.RowKit Go.Maps

theorem dvs_take : ∀ (l : List Dot) (k : Nat), dvs (l.take k) = (dvs l).take (k * 2)
  | [], k => by simp [dvs]
  | d :: l, 0 => by simp [dvs]
  | d :: l, k + 1 => by
    have ih := dvs_take l k
    have e : dvs (d :: l) = .int .i64 d.1 :: .int .i64 d.2 :: dvs l := rfl
    have e2 : dvs (d :: l.take k) = .int .i64 d.1 :: .int .i64 d.2 :: dvs (l.take k) := rfl
    rw [List.take_succ_cons, e2, e, show (k + 1) * 2 = k * 2 + 1 + 1 by omega, List.take_succ_cons, List.take_succ_cons, ih]
theorem dvs_drop : ∀ (l : List Dot) (k : Nat), dvs (l.drop k) = (dvs l).drop (k * 2)
  | [], k => by simp [dvs]
  | d :: l, 0 => by simp [dvs]
  | d :: l, k + 1 => by
    have ih := dvs_drop l k
    have e : dvs (d :: l) = .int .i64 d.1 :: .int .i64 d.2 :: dvs l := rfl
    rw [List.drop_succ_cons, e, show (k + 1) * 2 = k * 2 + 1 + 1 by omega, List.drop_succ_cons, List.drop_succ_cons, ih]

theorem own_pure {w w' : World} {base n e s : Nat} {v : Value} {xs : List Value} (h : w.ownsRow base e s v n xs) (hp : Pure w w') : w'.ownsRow base e s v n xs := by
  obtain ⟨hl, h | ⟨g, cap, cur, rfl, hb, hg, r⟩⟩ := h
  · exact ⟨hl, .inl h⟩
  · exact ⟨hl, .inr ⟨g, cap, cur, rfl, hb, (hp.block g (lt_of_block hg)).trans hg, r⟩⟩

set_option maxHeartbeats 4000000 in
theorem rsort_any (v : Value) (l : List Dot) (w : World) (hr : Dots w v l) (hl : l.length ≤ 100000) :
    Calls Try.prog 63 #[v] w fun r w' => ∃ v', r = .returned v' ∧ w'.ownsRow w.heap.size 67 2 v' (dsort l).length (dvs (dsort l)) ∧ Pure w w' := by
  obtain ⟨a, cap, rfl⟩ := hr.shape
  have Hr := hid hr
  clear hr
  go_enter Try.func63, Try.ntmps63
  go_wp2
  go_loopw [3, 4] (fun v i wr => ∃ k : Nat, k ≤ l.length ∧ i = .int .i64 k ∧ wr.ownsRow w.heap.size 67 2 v (dsort (l.take k)).length (dvs (dsort (l.take k))) ∧ Pure w wr) (fun _ i _ => l.length - (RowKit.intOf i).toNat)
  case atStart => exact ⟨0, Nat.zero_le _, rfl, World.ownsRow_nil _ _ _ _, Below.refl _ _⟩
  case round =>
    obtain ⟨k, hk, rfl, hown, hb⟩ := hrel
    by_cases hlt : k < l.length
    · obtain ⟨bo, oo, rfl, hbo, c0, c1⟩ := Dots.get (show Dots wr (.slice a l.length cap) l from Row.pure Hr.out hb) hlt
      have hlt' : (k : Int) < (l.length : Int) := by omega
      have Hstep := hid (dsort_take l k hlt)
      have hfl := dsort_len_take l k (by omega)
      have hh := hid (fun W (hW : Pure wr W) => rdhas_any _ (dsort (l.take k)) (l.getD k (0, 0)) W (show Dots W _ _ from Row.pure (Row.of_own hown) hW))
      obtain ⟨wo, rfl⟩ : ∃ wo : World, wo = wr := ⟨_, rfl⟩
      generalize dsort (l.take k) = Y at *
      obtain ⟨a3, c3, rfl⟩ := own_shape_d hown
      have HIY : Hid (∀ W, Pure wo W → Row W (.slice a3 Y.length c3) Y.length 2 (dvs Y)) := fun W hW => Row.pure (Row.of_own hown) hW
      have Hpl : Hid (a3 = none ∨ ∃ b o, a3 = some ⟨b, o, none⟩) := by
        obtain ⟨p, c, e, h⟩ := own_plain_d hown; cases e; exact h
      have Hown := hid hown
      have Hb := hid hb
      clear hown hb
      generalize l.getD k (0, 0) = z at *
      obtain ⟨z1, z2⟩ := z
      dsimp only at c0 c1
      unfold dv at hh
      by_cases hm : (z1, z2) ∈ Y
      · have Hm := hid hm
        have hh' := hid (fun W hW => (show Calls _ _ _ _ _ from by have := hh.out W hW; rw [decide_eq_true hm] at this; exact this))
        clear hm
        go_wp2_with (go_at_call 61; refine (hh'.out _ (Below.refl _ _)).mono ?_; rintro e w2 ⟨rfl, hp2⟩; have Hp2 := hid hp2; clear hp2)
        go_roundw
        case rel => exact ⟨k + 1, by omega, by go_num, by rw [Hstep.out]; unfold dins; rw [if_pos Hm.out]; exact own_pure Hown.out Hp2.out, Hb.out.then_ Hp2.out⟩
        case measure => simp [RowKit.intOf]; omega
      · have Hnin := hid hm
        have hh' := hid (fun W hW => (show Calls _ _ _ _ _ from by have := hh.out W hW; rw [decide_eq_false hm] at this; exact this))
        clear hm
        go_wp2_with (go_at_call 61; refine (hh'.out _ (Below.refl _ _)).mono ?_; rintro e w2 ⟨rfl, hp2⟩; have Hp2 := hid hp2; clear hp2)
        go_loopw [6] (fun kk wq => ∃ j : Nat, j ≤ Y.length ∧ kk = .int .i64 j ∧ dpos Y (z1, z2) j = dpos Y (z1, z2) Y.length ∧ Pure wo wq) (fun kk _ => (RowKit.intOf kk).toNat)
        case atStart => exact ⟨Y.length, Nat.le_refl _, rfl, rfl, Hp2.out⟩
        case round =>
          obtain ⟨j, hj, rfl, hd, hpq⟩ := hrel
          have Hpq := hid hpq
          have d0 : wr.cell? ⟨bo, oo + k * 2, none⟩ = some (.int .i64 z1) := (hpq.cell hbo).trans c0
          have d1 : wr.cell? ⟨bo, oo + k * 2 + 1, none⟩ = some (.int .i64 z2) := (hpq.cell hbo).trans c1
          have Hcx := hid (And.intro d0 d1)
          have hbo : bo < wr.heap.size := Nat.lt_of_lt_of_le hbo hpq.size
          clear hpq
          cases j with
          | zero =>
            have Hd := hid (show 0 = dpos Y (z1, z2) Y.length from hd)
            clear hd
            have hij : 0 ≤ Y.length := hj
            obtain ⟨v1, hv1, hi1⟩ := slice_pre_row Try.underlying27 (HIY.out _ Hpq.out) hij Hpl.out sizeDot
            obtain ⟨v2, hv2, hi2⟩ := slice_suf_row Try.underlying27 (HIY.out _ Hpq.out) hij Hpl.out sizeDot
            have Hi1 : Hid (∀ W, Pure wr W → Row W v1 (0) 2 (dvs (Y.take (0)))) := fun W hW => by rw [dvs_take]; exact hi1 W (HIY.out W (Hpq.out.then_ hW))
            have Hi2 : Hid (∀ W, Pure wr W → Row W v2 (Y.length - (0)) 2 (dvs (Y.drop (0)))) := fun W hW => by rw [dvs_drop]; exact hi2 W (HIY.out W (Hpq.out.then_ hW))
            have hfinish : Hid (∀ (wE : World) (v3 : Value), wE.ownsRow wr.heap.size 67 2 v3 (0 + 1 + (Y.length - (0))) (dvs (Y.take (0) ++ [(z1, z2)] ++ Y.drop (0))) → wE.ownsRow w.heap.size 67 2 v3 (dsort (l.take (k + 1))).length (dvs (dsort (l.take (k + 1))))) := fun wE v3 h => by
              have e : dsort (l.take (k + 1)) = Y.take (0) ++ [(z1, z2)] ++ Y.drop (0) := by
                rw [Hstep.out]; unfold dins; rw [if_neg Hnin.out, ← Hd.out]
              have e2 : (Y.take (0) ++ [(z1, z2)] ++ Y.drop (0)).length = 0 + 1 + (Y.length - (0)) := by simp; omega
              rw [e, e2]
              exact own_mono h (by have := Hb.out.size; have := Hpq.out.size; omega)
            clear hi1 hi2
            have hv1 : ∀ W, (Instr.slice 27 (.slice a3 Y.length c3) none (some (.int .i64 (0))) none).run Try.prog W = .ok v1 W := hv1
            have hv2 : ∀ W, (Instr.slice 27 (.slice a3 Y.length c3) (some (.int .i64 (0))) none none).run Try.prog W = .ok v2 W := hv2
            generalize Value.slice a3 Y.length c3 = V at hv1 hv2 ⊢
            go_wp2_with (at_builtin; refine wpList_append_dots rfl _ _ rfl wr.heap.size (.slice none 0 0) [] 0 rfl (World.ownsRow_nil _ _ _ _) _ (Y.take (0)) (0) rfl (Hi1.out _ (Below.refl _ _)) (by omega) (Nat.le_refl _) ?_)
            intro v3 w3 hown3 hg3
            have Hown3 := hid (show w3.ownsRow wr.heap.size 67 2 v3 (0) (dvs (Y.take (0))) by simpa using hown3)
            have Hg3 := hid (show Pure wr w3 from (Below.refl _ _).grown hg3 (Nat.le_refl _) (fun k hk => by simp [Value.ownBlock] at hk))
            obtain ⟨a4, c4, rfl⟩ := own_shape_d Hown3.out
            clear hown3 hg3
            have qx : w3.cell? ⟨bo, oo + k * 2, none⟩ = some (.int .i64 z1) := (Hg3.out.cell hbo).trans Hcx.out.1
            have qy : w3.cell? ⟨bo, oo + k * 2 + 1, none⟩ = some (.int .i64 z2) := (Hg3.out.cell hbo).trans Hcx.out.2
            have b1 : wr.heap.size ≤ (w3.alloc (.cells #[.int .i64 z1, .int .i64 z2] 67)).heap.size := by have := Hg3.out.size; simp; omega
            clear c0 c1
            go_wp2_with (at_builtin; refine wpList_append_dots rfl _ _ rfl wr.heap.size _ (Y.take (0)) (0) rfl (Hown3.out.alloc _) _ [(z1, z2)] 1 rfl (dots_lit w3 z1 z2) (by omega) b1 ?_)
            intro v4 w4 hown4 hg4
            have Hown4 := hid hown4
            have Hg4 := hid (show Pure wr w4 from (Hg3.out.alloc Hg3.out.size _).grown hg4 (by have := Hg3.out.size; simp; omega) (fun k hk => (Hown3.out.lt k hk).1))
            have Hi2' := hid (Hi2.out _ Hg4.out)
            obtain ⟨a5, c5, rfl⟩ := own_shape_d Hown4.out
            clear hown4 hg4 b1
            go_wp2_with (at_builtin; refine wpList_append_dots rfl _ _ rfl wr.heap.size _ (Y.take (0) ++ [(z1, z2)]) (0 + 1) rfl Hown4.out _ (Y.drop (0)) (Y.length - (0)) rfl Hi2'.out (by omega) Hg4.out.size ?_)
            intro v5 w5 hown5 hg5
            have Hown5 := hid hown5
            have Hg5 := hid (Hg4.out.grown hg5 Hg4.out.size (fun k hk => (Hown4.out.lt k hk).1))
            obtain ⟨a6, c6, rfl⟩ := own_shape_d Hown5.out
            clear hown5 hg5
            go_wp2
            go_roundw
            case rel => exact ⟨k + 1, by omega, by go_num, hfinish.out _ _ Hown5.out, (Hb.out.then_ Hpq.out).then_ Hg5.out⟩
            case measure => simp [RowKit.intOf]; omega
          | succ i =>
            obtain ⟨bb, ob, rfl, hbb, e0, e1⟩ := Dots.get (show Dots wr (.slice a3 Y.length c3) Y from HIY.out _ Hpq.out) (show i < Y.length by omega)
            have h1 : ((i : Int) + 1) - 1 = i := by omega
            have h2 : (0 : Int) < (i : Int) + 1 := by omega
            have h3 : (i : Int) < (Y.length : Int) := by omega
            have h4 : (0 : Int) ≤ (i : Int) := by omega
            have h5 : IntKind.i64.wrap ((i : Int) + 1 - 1) = (i : Int) := by rw [IntWalk.i64_in _ (by omega)]; omega
            have h6 : IntKind.i64.wrap (i : Int) = (i : Int) := IntWalk.i64_in _ (by omega)
            have h7 : (i : Int) ≤ (Y.length : Int) := by omega
            have h8 : (0 : Int) ≤ (k : Int) := by omega
            obtain ⟨y, hy⟩ : ∃ y, y = Y.getD i (0, 0) := ⟨_, rfl⟩
            have Hdp := hid (show dpos Y (z1, z2) (i + 1) = if dlt (z1, z2) y then dpos Y (z1, z2) i else i + 1 by rw [hy]; rfl)
            rw [← hy] at e0 e1
            have Hd0 := hid hd
            clear hd hy c0 c1
            obtain ⟨y1, y2⟩ := y
            dsimp only at e0 e1
            have hless := hid (fun W => rless_any (z1, z2) (y1, y2) W)
            unfold dv at hless
            dsimp only at hless
            have hst := hid (show wr.drew.cell? ⟨bo, oo + k * 2, none⟩ = some (.int .i64 z1) ∧ wr.drew.cell? ⟨bo, oo + k * 2 + 1, none⟩ = some (.int .i64 z2) ∧ wr.drew.cell? ⟨bb, ob + i * 2, none⟩ = some (.int .i64 y1) ∧ wr.drew.cell? ⟨bb, ob + i * 2 + 1, none⟩ = some (.int .i64 y2) ∧ Pure wo wr.drew from ⟨d0, d1, e0, e1, Hpq.out.then_ (Below.refl _ _).drew⟩)
            have hkeep : Hid (∀ W W' : World, Pure W W' → (W.cell? ⟨bo, oo + k * 2, none⟩ = some (.int .i64 z1) ∧ W.cell? ⟨bo, oo + k * 2 + 1, none⟩ = some (.int .i64 z2) ∧ W.cell? ⟨bb, ob + i * 2, none⟩ = some (.int .i64 y1) ∧ W.cell? ⟨bb, ob + i * 2 + 1, none⟩ = some (.int .i64 y2) ∧ Pure wo W) →
                (W'.cell? ⟨bo, oo + k * 2, none⟩ = some (.int .i64 z1) ∧ W'.cell? ⟨bo, oo + k * 2 + 1, none⟩ = some (.int .i64 z2) ∧ W'.cell? ⟨bb, ob + i * 2, none⟩ = some (.int .i64 y1) ∧ W'.cell? ⟨bb, ob + i * 2 + 1, none⟩ = some (.int .i64 y2) ∧ Pure wo W')) := fun W W' hp ⟨a, b, c, d, e⟩ =>
              ⟨(hp.cell (World.block_lt_of_cell? W _ a)).trans a, (hp.cell (World.block_lt_of_cell? W _ b)).trans b, (hp.cell (World.block_lt_of_cell? W _ c)).trans c, (hp.cell (World.block_lt_of_cell? W _ d)).trans d, e.then_ hp⟩
            generalize hL : dlt (z1, z2) (y1, y2) = L at *
            clear hL
            go_wp2_with fail
            go_region_held3 (fun W => W.cell? ⟨bo, oo + k * 2, none⟩ = some (.int .i64 z1) ∧ W.cell? ⟨bo, oo + k * 2 + 1, none⟩ = some (.int .i64 z2) ∧ W.cell? ⟨bb, ob + i * 2, none⟩ = some (.int .i64 y1) ∧ W.cell? ⟨bb, ob + i * 2 + 1, none⟩ = some (.int .i64 y2) ∧ Pure wo W)
              (first | exact hst.out | exact hkeep.out _ _ (by assumption) (by assumption))
              (first | (go_at_call 73; refine (hless.out _).mono ?_; rintro e w7 ⟨rfl, hp7⟩))
            have hx7 : w7.cell? ⟨bo, oo + k * 2, none⟩ = some (.int .i64 z1) ∧ w7.cell? ⟨bo, oo + k * 2 + 1, none⟩ = some (.int .i64 z2) ∧ w7.cell? ⟨bb, ob + i * 2, none⟩ = some (.int .i64 y1) ∧ w7.cell? ⟨bb, ob + i * 2 + 1, none⟩ = some (.int .i64 y2) ∧ Pure wo w7 := by assumption
            have Hp7 := hid hx7.2.2.2.2
            have Hcx7 := hid (And.intro hx7.1 hx7.2.1)
            clear hx7 hp7 e0 e1 d0 d1 Hcx
            have Hcx := Hcx7
            have c0 := Hcx.out.1
            have c1 := Hcx.out.2
            have hbo : bo < w7.heap.size := World.block_lt_of_cell? w7 _ c0
            cases L with
            | true =>
              have Hdd := hid (show dpos Y (z1, z2) i = dpos Y (z1, z2) Y.length by rw [← Hd0.out, Hdp.out]; rfl)
              go_wp2
              go_roundw
              case rel => exact ⟨i, by omega, by go_num, Hdd.out, Hp7.out⟩
              case measure => simp [RowKit.intOf]
            | false =>
              have Hd := hid (show i + 1 = dpos Y (z1, z2) Y.length by rw [← Hd0.out, Hdp.out]; rfl)
              have hij : i + 1 ≤ Y.length := hj
              obtain ⟨v1, hv1, hi1⟩ := slice_pre_row Try.underlying27 (HIY.out _ Hp7.out) hij Hpl.out sizeDot
              obtain ⟨v2, hv2, hi2⟩ := slice_suf_row Try.underlying27 (HIY.out _ Hp7.out) hij Hpl.out sizeDot
              have Hi1 : Hid (∀ W, Pure w7 W → Row W v1 (i + 1) 2 (dvs (Y.take (i + 1)))) := fun W hW => by rw [dvs_take]; exact hi1 W (HIY.out W (Hp7.out.then_ hW))
              have Hi2 : Hid (∀ W, Pure w7 W → Row W v2 (Y.length - (i + 1)) 2 (dvs (Y.drop (i + 1)))) := fun W hW => by rw [dvs_drop]; exact hi2 W (HIY.out W (Hp7.out.then_ hW))
              have hfinish : Hid (∀ (wE : World) (v3 : Value), wE.ownsRow w7.heap.size 67 2 v3 (i + 1 + 1 + (Y.length - (i + 1))) (dvs (Y.take (i + 1) ++ [(z1, z2)] ++ Y.drop (i + 1))) → wE.ownsRow w.heap.size 67 2 v3 (dsort (l.take (k + 1))).length (dvs (dsort (l.take (k + 1))))) := fun wE v3 h => by
                have e : dsort (l.take (k + 1)) = Y.take (i + 1) ++ [(z1, z2)] ++ Y.drop (i + 1) := by
                  rw [Hstep.out]; unfold dins; rw [if_neg Hnin.out, ← Hd.out]
                have e2 : (Y.take (i + 1) ++ [(z1, z2)] ++ Y.drop (i + 1)).length = i + 1 + 1 + (Y.length - (i + 1)) := by simp; omega
                rw [e, e2]
                exact own_mono h (by have := Hb.out.size; have := Hp7.out.size; omega)
              clear hi1 hi2
              have hv1 : ∀ W, (Instr.slice 27 (.slice (some ⟨bb, ob, none⟩) Y.length c3) none (some (.int .i64 ((i : Int) + 1))) none).run Try.prog W = .ok v1 W := hv1
              have hv2 : ∀ W, (Instr.slice 27 (.slice (some ⟨bb, ob, none⟩) Y.length c3) (some (.int .i64 ((i : Int) + 1))) none none).run Try.prog W = .ok v2 W := hv2
              generalize Value.slice (some ⟨bb, ob, none⟩) Y.length c3 = V at hv1 hv2 ⊢
              go_wp2_with (at_builtin; refine wpList_append_dots rfl _ _ rfl w7.heap.size (.slice none 0 0) [] 0 rfl (World.ownsRow_nil _ _ _ _) _ (Y.take (i + 1)) (i + 1) rfl (Hi1.out _ (Below.refl _ _)) (by omega) (Nat.le_refl _) ?_)
              intro v3 w3 hown3 hg3
              have Hown3 := hid (show w3.ownsRow w7.heap.size 67 2 v3 (i + 1) (dvs (Y.take (i + 1))) by simpa using hown3)
              have Hg3 := hid (show Pure w7 w3 from (Below.refl _ _).grown hg3 (Nat.le_refl _) (fun k hk => by simp [Value.ownBlock] at hk))
              obtain ⟨a4, c4, rfl⟩ := own_shape_d Hown3.out
              clear hown3 hg3
              have qx : w3.cell? ⟨bo, oo + k * 2, none⟩ = some (.int .i64 z1) := (Hg3.out.cell hbo).trans Hcx.out.1
              have qy : w3.cell? ⟨bo, oo + k * 2 + 1, none⟩ = some (.int .i64 z2) := (Hg3.out.cell hbo).trans Hcx.out.2
              have b1 : w7.heap.size ≤ (w3.alloc (.cells #[.int .i64 z1, .int .i64 z2] 67)).heap.size := by have := Hg3.out.size; simp; omega
              clear c0 c1
              go_wp2_with (at_builtin; refine wpList_append_dots rfl _ _ rfl w7.heap.size _ (Y.take (i + 1)) (i + 1) rfl (Hown3.out.alloc _) _ [(z1, z2)] 1 rfl (dots_lit w3 z1 z2) (by omega) b1 ?_)
              intro v4 w4 hown4 hg4
              have Hown4 := hid hown4
              have Hg4 := hid (show Pure w7 w4 from (Hg3.out.alloc Hg3.out.size _).grown hg4 (by have := Hg3.out.size; simp; omega) (fun k hk => (Hown3.out.lt k hk).1))
              have Hi2' := hid (Hi2.out _ Hg4.out)
              obtain ⟨a5, c5, rfl⟩ := own_shape_d Hown4.out
              clear hown4 hg4 b1
              go_wp2_with (at_builtin; refine wpList_append_dots rfl _ _ rfl w7.heap.size _ (Y.take (i + 1) ++ [(z1, z2)]) (i + 1 + 1) rfl Hown4.out _ (Y.drop (i + 1)) (Y.length - (i + 1)) rfl Hi2'.out (by omega) Hg4.out.size ?_)
              intro v5 w5 hown5 hg5
              have Hown5 := hid hown5
              have Hg5 := hid (Hg4.out.grown hg5 Hg4.out.size (fun k hk => (Hown4.out.lt k hk).1))
              obtain ⟨a6, c6, rfl⟩ := own_shape_d Hown5.out
              clear hown5 hg5
              go_wp2
              go_roundw
              case rel => exact ⟨k + 1, by omega, by go_num, hfinish.out _ _ (by rw [List.append_assoc]; exact Hown5.out), (Hb.out.then_ Hp7.out).then_ Hg5.out⟩
              case measure => simp [RowKit.intOf]; omega
    · have hlt' : ¬ (k : Int) < (l.length : Int) := by omega
      have e : l.take k = l := List.take_of_length_le (by omega)
      rw [e] at hown
      obtain ⟨a3, c3, rfl⟩ := own_shape_d hown
      have Hown := hid hown
      have Hp := hid hb
      clear hb hown e
      go_wp2
      go_ret
      exact ⟨_, rfl, Hown.out, Hp.out⟩
end Go.Proofs.Ytofengnbedebpaa
