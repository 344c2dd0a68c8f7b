/- dot: Check, compare, Less. -/
import Derived.Test.YtdlpnhfgjficgaaGreatMCm
import Derived.Test.YtdlpnhfgjficgaaGreatShelf
namespace Go.Proofs.YtdlpnhfgjficgaaGreat
open Go.RowKit Go.Maps Go.Shelf Go.Sort

set_option maxHeartbeats 400000 in
theorem may_any (x : Int) (w : World) :
    Calls Tryz.prog 203 #[.int .i64 x] w fun e w' => e = .returned (.bool (decide (1 ≤ x) && decide (x ≤ 1099511627776))) ∧ w' = w := by
  by_cases h1 : 1 ≤ x
  · by_cases h2 : x ≤ 1099511627776
    · go_enter Tryz.func203, Tryz.ntmps203
      go_wp2
      go_ret
      exact ⟨ret_bool (by simp [h1, h2]), rfl⟩
    · go_enter Tryz.func203, Tryz.ntmps203
      go_wp2
      go_ret
      exact ⟨ret_bool (by simp [h2]), rfl⟩
  · go_enter Tryz.func203, Tryz.ntmps203
    go_wp2
    go_ret
    exact ⟨ret_bool (by simp; omega), rfl⟩

set_option maxHeartbeats 1000000 in
theorem chk_any (d : Dot) (w : World) :
    Calls Tryz.prog 176 #[dv d] w fun e w' => e = .returned (.bool (dchk d)) ∧ Pure w w' := by
  obtain ⟨x, y⟩ := d
  have hp := hid (show ∀ o, Pure w (w.alloc o) from fun o => (Below.refl _ _).alloc (Nat.le_refl _) o)
  have hx := hid (fun W => may_any x W)
  have hy := hid (fun W => may_any y W)
  have eg : ∀ args W, (callFunc 203 args).run Tryz.prog W = .ok (.enter 203 args) W := enters_of Tryz.func203 (by kernel_rfl) rfl
  have hr : dchk (x, y) = ((decide (1 ≤ x) && decide (x ≤ 1099511627776)) && (decide (1 ≤ y) && decide (y ≤ 1099511627776))) := by unfold dchk; simp [Bool.and_assoc]
  rw [hr]
  clear hr
  unfold dv
  dsimp only
  generalize (decide (1 ≤ x) && decide (x ≤ 1099511627776)) = X at *
  generalize (decide (1 ≤ y) && decide (y ≤ 1099511627776)) = Y at *
  cases X <;> cases Y
  all_goals
    go_enter Tryz.func176, Tryz.ntmps176
    go_wp2_with fail
    with_reducible refine (hx.out _).mono ?_
    rintro e w1 ⟨rfl, rfl⟩
    go_wp2_with fail
    first
    | (go_ret
       exact ⟨rfl, hp.out _⟩)
    | (with_reducible refine (hy.out _).mono ?_
       rintro e w1 ⟨rfl, rfl⟩
       go_wp2
       go_ret
       exact ⟨rfl, hp.out _⟩)

set_option maxHeartbeats 1000000 in
theorem or2_any (bb : Nat) (x y : Int) (w : World) (c0 : w.cell? ⟨bb, 0, none⟩ = some (.int .i64 x)) (c1 : w.cell? ⟨bb, 1, none⟩ = some (.int .i64 y)) :
    Calls Tryz.prog 211 #[.slice (some ⟨bb, 0, none⟩) 2 2] w fun e w' => e = .returned (.int .i64 (if x = 0 then y else x)) ∧ w' = w := by
  by_cases hx : x = 0
  · subst hx
    by_cases hy : y = 0
    · subst hy
      go_enter Tryz.func211, Tryz.ntmps211
      go_wp2
      go_loop [8] (fun i => i = .int .i64 0 ∨ i = .int .i64 1 ∨ i = .int .i64 2) (fun i => 2 - (RowKit.intOf i).toNat)
      case atStart => exact .inl rfl
      case round =>
        rcases hrel with rfl | rfl | rfl
        · go_wp2
          go_round
          case rel => exact .inr (.inl rfl)
          case measure => simp [RowKit.intOf]
        · go_wp2
          go_round
          case rel => exact .inr (.inr rfl)
          case measure => simp [RowKit.intOf]
        · go_wp2
          go_ret
          exact ⟨by simp, rfl⟩
    · have hy' : (y != 0) = true := by simp [hy]
      go_enter Tryz.func211, Tryz.ntmps211
      go_wp2
      go_loop [8] (fun i => i = .int .i64 0 ∨ i = .int .i64 1) (fun i => 2 - (RowKit.intOf i).toNat)
      case atStart => exact .inl rfl
      case round =>
        rcases hrel with rfl | rfl
        · go_wp2
          go_round
          case rel => exact .inr rfl
          case measure => simp [RowKit.intOf]
        · go_wp2
          go_ret
          exact ⟨by simp, rfl⟩
  · have hx' : (x != 0) = true := by simp [hx]
    go_enter Tryz.func211, Tryz.ntmps211
    go_wp2
    go_loop [8] (fun i => i = .int .i64 0) (fun i => 2 - (RowKit.intOf i).toNat)
    case atStart => rfl
    case round =>
      subst hrel
      go_wp2
      go_ret
      exact ⟨by simp, rfl⟩

/-- How two names stand. -/
def dcmp (a b : Dot) : Int := if Lib.compareInt a.1 b.1 = 0 then Lib.compareInt a.2 b.2 else Lib.compareInt a.1 b.1
theorem dcmp_lt (a b : Dot) : decide (dcmp a b < 0) = dlt a b := by
  unfold dcmp dlt Lib.compareInt
  by_cases h1 : a.1 < b.1
  · simp [h1]
  · by_cases h2 : b.1 < a.1
    · have : ¬ a.1 = b.1 := by omega
      simp [h1, h2, this]
    · have : a.1 = b.1 := by omega
      simp [this]
      by_cases h3 : a.2 < b.2 <;> by_cases h4 : b.2 < a.2 <;> simp [h3, h4]

/-- A world that has drawn and grown. -/
def Grew (w W : World) : Prop := ∃ q os, W = grow (w.drewN q) os
theorem Grew.refl (w : World) : Grew w w := ⟨0, #[], by rw [grow_empty]; rfl⟩
theorem Grew.alloc {w W : World} (h : Grew w W) (o : Obj) : Grew w (W.alloc o) := by
  obtain ⟨q, os, rfl⟩ := h
  exact ⟨q, os ++ #[o], by rw [alloc_eq_grow, grow_grow]⟩
theorem Grew.drew {w W : World} (h : Grew w W) : Grew w W.drew := by
  obtain ⟨q, os, rfl⟩ := h
  exact ⟨q + 1, os, rfl⟩
theorem Grew.pure {w W : World} (h : Grew w W) : Pure w W := by
  obtain ⟨q, os, rfl⟩ := h
  refine ⟨rfl, rfl, rfl, by simp [grow], fun k hk => ?_⟩
  show (w.heap ++ os)[k]? = _
  rw [Array.getElem?_append_left hk]

def CS (n : Nat) (x y u v : Int) (w W : World) : Prop := W.cell? ⟨n, 0, none⟩ = some (.int .i64 x) ∧ W.cell? ⟨n, 1, none⟩ = some (.int .i64 y) ∧ W.cell? ⟨n + 1, 0, none⟩ = some (.int .i64 u) ∧ W.cell? ⟨n + 1, 1, none⟩ = some (.int .i64 v) ∧ Grew w W
theorem CS.alloc {n : Nat} {x y u v : Int} {w W : World} (h : CS n x y u v w W) (o : Obj) : CS n x y u v w (W.alloc o) :=
  have hp : Pure W (W.alloc o) := (Below.refl _ _).alloc (Nat.le_refl _) o
  ⟨(hp.cell (World.block_lt_of_cell? W _ h.1)).trans h.1, (hp.cell (World.block_lt_of_cell? W _ h.2.1)).trans h.2.1, (hp.cell (World.block_lt_of_cell? W _ h.2.2.1)).trans h.2.2.1, (hp.cell (World.block_lt_of_cell? W _ h.2.2.2.1)).trans h.2.2.2.1, h.2.2.2.2.alloc o⟩
theorem CS.drew {n : Nat} {x y u v : Int} {w W : World} (h : CS n x y u v w W) : CS n x y u v w W.drew := ⟨h.1, h.2.1, h.2.2.1, h.2.2.2.1, h.2.2.2.2.drew⟩

set_option maxHeartbeats 1000000 in
theorem cmp_any (a b : Dot) (w : World) :
    Calls Tryz.prog 187 #[dv a, dv b] w fun e w' => e = .returned (.int .i64 (dcmp a b)) ∧ Grew w w' := by
  obtain ⟨x, y⟩ := a
  obtain ⟨u, v⟩ := b
  have hx := hid (fun W => Tryz.cmp_Compare_int x u W)
  have hy := hid (fun W => Tryz.cmp_Compare_int y v W)
  unfold dv dcmp
  dsimp only
  generalize Lib.compareInt x u = X at *
  generalize Lib.compareInt y v = Y at *
  have ho := hid (show Calls Tryz.prog 211 #[.slice (some ⟨w.heap.size + 1 + 1, 0, none⟩) 2 2] (((w.alloc (.cells #[.int .i64 x, .int .i64 y] 28)).alloc (.cells #[.int .i64 u, .int .i64 v] 28)).alloc (.cells #[.int .i64 X, .int .i64 Y] 3)).drew _ from
    or2_any _ X Y _ (by show (World.alloc _ _).cell? _ = _; rw [show w.heap.size + 1 + 1 = ((w.alloc (.cells #[.int .i64 x, .int .i64 y] 28)).alloc (.cells #[.int .i64 u, .int .i64 v] 28)).heap.size by simp, World.cell?_alloc_new]; simp) (by show (World.alloc _ _).cell? _ = _; rw [show w.heap.size + 1 + 1 = ((w.alloc (.cells #[.int .i64 x, .int .i64 y] 28)).alloc (.cells #[.int .i64 u, .int .i64 v] 28)).heap.size by simp, World.cell?_alloc_new]; simp))
  generalize (if X = 0 then Y else X) = R at *
  have hst0 := hid (show CS w.heap.size x y u v w ((w.alloc (.cells #[.int .i64 x, .int .i64 y] 28)).alloc (.cells #[.int .i64 u, .int .i64 v] 28)) from
    ⟨by simp, by simp, by show (World.alloc _ _).cell? _ = _; rw [show w.heap.size + 1 = (w.alloc (.cells #[.int .i64 x, .int .i64 y] 28)).heap.size by simp, World.cell?_alloc_new]; simp, by show (World.alloc _ _).cell? _ = _; rw [show w.heap.size + 1 = (w.alloc (.cells #[.int .i64 x, .int .i64 y] 28)).heap.size by simp, World.cell?_alloc_new]; simp, ((Grew.refl w).alloc _).alloc _⟩)
  have hst := hid hst0.out.drew
  have hkeep := hid (fun W o (h : CS w.heap.size x y u v w W) => h.alloc o)
  go_enter Tryz.func187, Tryz.ntmps187
  go_wp2_with fail
  go_region_held3 (fun W => W.cell? ⟨w.heap.size, 0, none⟩ = some (.int .i64 x) ∧ W.cell? ⟨w.heap.size, 1, none⟩ = some (.int .i64 y) ∧ W.cell? ⟨w.heap.size + 1, 0, none⟩ = some (.int .i64 u) ∧ W.cell? ⟨w.heap.size + 1, 1, none⟩ = some (.int .i64 v) ∧ Grew w W)
    (first | assumption | exact hst.out | exact (hkeep.out _ _ hst0.out).drew | exact hC.out)
    (first
    | (go_at_call 156; (with_reducible refine (hx.out _).mono ?_); rintro e w7 ⟨rfl, rfl⟩)
    | (go_at_call 156; (with_reducible refine (hy.out _).mono ?_); rintro e w7 ⟨rfl, rfl⟩)
    | (go_at_call 211; (with_reducible refine ho.out.mono ?_); rintro e w7 ⟨rfl, hw7⟩; have hC := hid (show CS w.heap.size x y u v w w7 by rw [hw7]; exact (hkeep.out _ _ hst0.out).drew); clear hw7))
  go_wp2
  go_ret
  exact ⟨rfl, hC.out.2.2.2.2⟩

theorem cmp_pure (a b : Dot) (w : World) :
    Calls Tryz.prog 187 #[dv a, dv b] w fun e w' => e = .returned (.int .i64 (dcmp a b)) ∧ Pure w w' :=
  (cmp_any a b w).mono fun _ _ ⟨he, hw⟩ => ⟨he, hw.pure⟩

set_option maxHeartbeats 400000 in
theorem less_any (d e : Dot) (w : World) :
    Calls Tryz.prog 145 #[dv d, dv e] w fun r w' => r = .returned (.bool (dlt d e)) ∧ Pure w w' := by
  have hp := hid (show ∀ o o', Pure w ((w.alloc o).alloc o') from fun o o' => ((Below.refl _ _).alloc (Nat.le_refl _) o).alloc (by simp) o')
  have hc := hid (fun W => cmp_pure d e W)
  rw [← dcmp_lt]
  generalize dcmp d e = c at *
  obtain ⟨x, y⟩ := d
  obtain ⟨u, v⟩ := e
  unfold dv at *
  dsimp only at *
  by_cases h : c < 0
  all_goals
    go_enter Tryz.func145, Tryz.ntmps145
    go_wp2_with fail
    with_reducible refine (hc.out _).mono ?_
    rintro e w1 ⟨rfl, hp1⟩
    have Hp1 := hid hp1
    clear hp1
    go_wp2
    go_ret
    exact ⟨ret_bool (by simp [h]), (hp.out _ _).then_ Hp1.out⟩
end Go.Proofs.YtdlpnhfgjficgaaGreat
