/- ref09's May and Check, ref15's may and Check. -/
import Derived.Test.YtdlpnhfgjficgaaGreatEC
import Derived.Test.YtdlpnhfgjficgaaGreatMBs
import Derived.Test.YtdlpnhfgjficgaaGreatMVv
import Derived.Test.YtdlpnhfgjficgaaGreatMTx
import Derived.IntWalk
import Derived.Deep.RegionHeld3
import Derived.Test.YtdlpnhfgjficgaaGreatMJm
import Derived.Test.YtdlpnhfgjficgaaGreatMQa
import Derived.WalkMore
import Derived.BigQuiet
namespace Go.Proofs.YtdlpnhfgjficgaaGreat
open Go.RowKit Go.Maps Go.Shelf Go.Sort

set_option maxHeartbeats 4000000 in
theorem rmay9_any (p : Pr) (w : World) : Calls Tryz.prog 165 #[pv p] w fun e w' => e = .returned (.bool (pmay p)) ∧ Pure w w' := by
  obtain ⟨x, y, z⟩ := p
  have hp := hid (show ∀ o, Pure w (w.alloc o) from fun o => (Below.refl _ _).alloc (Nat.le_refl _) o)
  unfold pv pmay
  dsimp only
  by_cases h0 : 1 ≤ x
  · skip
    by_cases h1 : x ≤ 1099511627776
    · skip
      by_cases h2 : 0 ≤ y
      · skip
        by_cases h3 : y ≤ 1073741824
        · skip
          by_cases h4 : 0 ≤ z
          · skip
            by_cases h5 : z ≤ 2
            · skip
              go_enter Tryz.func165, Tryz.ntmps165
              go_wp2
              go_ret
              exact ⟨ret_bool (by simp [h0, h1, h2, h3, h4, h5]), hp.out _⟩
            · skip
              go_enter Tryz.func165, Tryz.ntmps165
              go_wp2
              go_ret
              exact ⟨ret_bool (by simp; omega), hp.out _⟩
          · skip
            go_enter Tryz.func165, Tryz.ntmps165
            go_wp2
            go_ret
            exact ⟨ret_bool (by simp; omega), hp.out _⟩
        · skip
          go_enter Tryz.func165, Tryz.ntmps165
          go_wp2
          go_ret
          exact ⟨ret_bool (by simp; omega), hp.out _⟩
      · skip
        go_enter Tryz.func165, Tryz.ntmps165
        go_wp2
        go_ret
        exact ⟨ret_bool (by simp; omega), hp.out _⟩
    · skip
      go_enter Tryz.func165, Tryz.ntmps165
      go_wp2
      go_ret
      exact ⟨ret_bool (by simp; omega), hp.out _⟩
  · skip
    go_enter Tryz.func165, Tryz.ntmps165
    go_wp2
    go_ret
    exact ⟨ret_bool (by simp; omega), hp.out _⟩
def hvv (h : Hold) : Value := .agg #[.int .i64 h.1.1, .int .i64 h.1.2, .int .i64 h.2.1, .int .i64 h.2.2]
set_option maxHeartbeats 4000000 in
theorem rmay15_any (h : Hold) (w : World) : Calls Tryz.prog 167 #[hvv h] w fun e w' => e = .returned (.bool (hmay h)) ∧ Pure w w' := by
  obtain ⟨⟨d0, d1⟩, x, y⟩ := h
  obtain ⟨wz, hwz⟩ : ∃ wz, wz = w.alloc (.cells #[.int .i64 d0, .int .i64 d1, .int .i64 x, .int .i64 y] 94) := ⟨_, rfl⟩
  have Hpz := hid (show Pure w wz from by rw [hwz]; exact (Below.refl _ _).alloc (Nat.le_refl _) _)
  have Hb := hid (show wz.heap[w.heap.size]? = some (.cells #[.int .i64 d0, .int .i64 d1, .int .i64 x, .int .i64 y] 94 (0, 0)) from by rw [hwz]; exact block_alloc_new _ _)
  have HC := hid (fun W (hW : Pure wz W) => (show W.cell? ⟨w.heap.size, 0, none⟩ = some (.int .i64 d0) ∧ W.cell? ⟨w.heap.size, 1, none⟩ = some (.int .i64 d1) ∧ W.cell? ⟨w.heap.size, 2, none⟩ = some (.int .i64 x) ∧ W.cell? ⟨w.heap.size, 3, none⟩ = some (.int .i64 y) from by
    have e := (hW.block _ (lt_of_block Hb.out)).trans Hb.out
    exact ⟨cell_of_block e 0, cell_of_block e 1, cell_of_block e 2, cell_of_block e 3⟩))
  have hck := hid (fun W => rchk_any (d0, d1) W)
  obtain ⟨k0, k1, k2, k3⟩ := HC.out wz (Below.refl _ _)
  rw [hwz] at k0 k1 k2 k3
  unfold hvv hmay
  unfold dv at hck
  dsimp only at hck ⊢
  generalize dchk (d0, d1) = D at *
  cases D with
  | false =>
    go_enter Tryz.func167, Tryz.ntmps167
    go_wp2_with fail
    rw [← hwz]
    clear hwz k0 k1 k2 k3
    refine (hck.out _).mono ?_
    rintro e w1 ⟨rfl, hp1⟩
    obtain ⟨k0, k1, k2, k3⟩ := HC.out w1 hp1
    have Hp1 := hid (Hpz.out.then_ hp1)
    clear hp1
    go_wp2
    go_ret
    exact ⟨ret_bool (by simp), Hp1.out⟩
  | true =>
    by_cases h0 : 1 ≤ x
    · skip
      by_cases h1 : x ≤ 1099511627776
      · skip
        by_cases h2 : 1 ≤ y
        · skip
          by_cases h3 : y ≤ 1125899906842624
          · skip
            go_enter Tryz.func167, Tryz.ntmps167
            go_wp2_with fail
            rw [← hwz]
            clear hwz k0 k1 k2 k3
            refine (hck.out _).mono ?_
            rintro e w1 ⟨rfl, hp1⟩
            obtain ⟨k0, k1, k2, k3⟩ := HC.out w1 hp1
            have Hp1 := hid (Hpz.out.then_ hp1)
            clear hp1
            go_wp2
            go_ret
            exact ⟨ret_bool (by simp [h0, h1, h2, h3]), Hp1.out⟩
          · skip
            go_enter Tryz.func167, Tryz.ntmps167
            go_wp2_with fail
            rw [← hwz]
            clear hwz k0 k1 k2 k3
            refine (hck.out _).mono ?_
            rintro e w1 ⟨rfl, hp1⟩
            obtain ⟨k0, k1, k2, k3⟩ := HC.out w1 hp1
            have Hp1 := hid (Hpz.out.then_ hp1)
            clear hp1
            go_wp2
            go_ret
            exact ⟨ret_bool (by simp; omega), Hp1.out⟩
        · skip
          go_enter Tryz.func167, Tryz.ntmps167
          go_wp2_with fail
          rw [← hwz]
          clear hwz k0 k1 k2 k3
          refine (hck.out _).mono ?_
          rintro e w1 ⟨rfl, hp1⟩
          obtain ⟨k0, k1, k2, k3⟩ := HC.out w1 hp1
          have Hp1 := hid (Hpz.out.then_ hp1)
          clear hp1
          go_wp2
          go_ret
          exact ⟨ret_bool (by simp; omega), Hp1.out⟩
      · skip
        go_enter Tryz.func167, Tryz.ntmps167
        go_wp2_with fail
        rw [← hwz]
        clear hwz k0 k1 k2 k3
        refine (hck.out _).mono ?_
        rintro e w1 ⟨rfl, hp1⟩
        obtain ⟨k0, k1, k2, k3⟩ := HC.out w1 hp1
        have Hp1 := hid (Hpz.out.then_ hp1)
        clear hp1
        go_wp2
        go_ret
        exact ⟨ret_bool (by simp; omega), Hp1.out⟩
    · skip
      go_enter Tryz.func167, Tryz.ntmps167
      go_wp2_with fail
      rw [← hwz]
      clear hwz k0 k1 k2 k3
      refine (hck.out _).mono ?_
      rintro e w1 ⟨rfl, hp1⟩
      obtain ⟨k0, k1, k2, k3⟩ := HC.out w1 hp1
      have Hp1 := hid (Hpz.out.then_ hp1)
      clear hp1
      go_wp2
      go_ret
      exact ⟨ret_bool (by simp; omega), Hp1.out⟩
set_option maxRecDepth 8000 in
set_option maxHeartbeats 4000000 in
theorem rvchk_any (v : Value) (l : List Pr) (w : World) (hr : Peers w v l) (hl : l.length ≤ 100000) :
    Calls Tryz.prog 119 #[v] w fun e w' => e = .returned (.int .i64 (er1 (vchk l))) ∧ Pure w w' := by
  obtain ⟨a, cap, rfl⟩ := hr.shape
  obtain ⟨C, hC⟩ : ∃ C, C = vchk l := ⟨_, rfl⟩
  rw [← hC]
  by_cases h100 : l.length ≤ 64
  · have HB := hid (show ∀ k, k < l.length → vat l k = false → C = false from fun k h e => by rw [hC]; unfold vchk; rw [allB_false h e, Bool.and_false])
    have HE := hid (show allB l.length (vat l) = true → C = true from fun h => by rw [hC]; unfold vchk; rw [h, decide_eq_true h100]; rfl)
    have Hr := hid hr
    have hmmy := hid (fun s W => rmay9_any s W)
    have h100' : ¬ (l.length : Int) > 64 := by omega
    clear hr hC
    go_enter Tryz.func119, Tryz.ntmps119
    go_wp2_with fail
    go_loopw [3] (fun i wr => ∃ k : Nat, k ≤ l.length ∧ i = .int .i64 k ∧ allB k (vat l) = true ∧ Pure w wr) (fun i _ => l.length - (RowKit.intOf i).toNat)
    case atStart => exact ⟨0, Nat.zero_le _, rfl, rfl, Below.refl _ _⟩
    case round =>
      obtain ⟨k, hk, rfl, hal, hp⟩ := hrel
      have Hal := hid hal
      have Hp := hid hp
      clear hal
      by_cases hlt : k < l.length
      · have hlt' : (k : Int) < (l.length : Int) := by omega
        have Hrow := hid (fun W (hW : Pure wr W) => (show Peers W (.slice a l.length cap) l from Row.pure Hr.out (hp.then_ hW)))
        obtain ⟨b, off, rfl, hb, x0, x1, x2⟩ := Peers.get (Hrow.out wr (Below.refl _ _)) hlt
        have Hno := hid (fun (e : vat l k = false) => HB.out k hlt e)
        have Hyes := hid (fun (e : vat l k = true) => allB_next Hal.out e)
        have Hat := hid (show vat l k = (pmay (l.getD k p0) && (decide (k = 0) || decide ((l.getD (k - 1) p0).id < (l.getD k p0).id))) from rfl)
        have hprev := hid (fun W (hW : Pure wr W) (hk0 : 0 < k) => (show W.cell? ⟨b, off + (k - 1) * 3, none⟩ = some (.int .i64 (l.getD (k - 1) p0).id) from by
          obtain ⟨b', off', e', _, y0, y1, _⟩ := Peers.get (Hrow.out W hW) (show k - 1 < l.length by omega)
          cases e'; exact y0))
        have hmy := hid (fun W => hmmy.out (l.getD k p0) W)
        generalize l.getD (k - 1) p0 = y at *
        generalize l.getD k p0 = z at *
        obtain ⟨z0, z1, z2⟩ := z
        obtain ⟨y0, y1, y2⟩ := y
        unfold pv at hmy
        dsimp only at x0 x1 x2 Hat hmy hprev
        generalize pmay (⟨z0, z1, z2⟩ : Pr) = D1 at *
        have Hx := hid (And.intro hb (And.intro x0 x1))
        clear hp hb
        go_wp2_with fail
        refine (hmy.out _).mono ?_
        rintro e w3 ⟨rfl, hp3⟩
        have Hq3 := hid hp3
        have Hp3 := hid (Hp.out.then_ hp3)
        have x0' := (hp3.cell Hx.out.1).trans Hx.out.2.1
        have x1' := (hp3.cell Hx.out.1).trans Hx.out.2.2
        clear hp3 x0 x1 x2
        cases D1 with
        | false =>
          have HF := hid (Hno.out (by rw [Hat.out]; rfl))
          clear Hyes Hno Hat hprev
          go_wp2_with fail
          go_quiet (fail)
          go_wp2
          go_ret
          exact ⟨by rw [HF.out]; rfl, Hp3.out.then_ (pure_drewN _ _)⟩
        | true =>
          by_cases hz0 : k = 0
          · subst hz0
            have HT := hid (Hyes.out (by rw [Hat.out]; rfl))
            have hd : decide ((0 : Int) < ((0 : Nat) : Int)) = false := by decide
            have hd2 : decide (((0 : Nat) : Int) > 0) = false := by decide
            clear Hyes Hno Hat hprev
            go_wp2_with fail
            go_quiet (fail)
            go_wp2
            go_roundw
            case rel => exact ⟨0 + 1, by omega, by go_num, HT.out, Hp3.out.then_ (pure_drewN _ _)⟩
            case measure => simp [RowKit.intOf]; omega
          · have hd : decide ((0 : Int) < (k : Int)) = true := by simp; omega
            have hd2 : decide ((k : Int) > 0) = true := by simp; omega
            have hd3 : decide (0 < k) = true := decide_eq_true (by omega)
            have hsub : IntKind.i64.wrap ((k : Int) - 1) = ((k - 1 : Nat) : Int) := by rw [IntWalk.i64_in _ (by omega)]; omega
            have hsub2 : (k : Int) - 1 = ((k - 1 : Nat) : Int) := by omega
            have hlt2 : ((k - 1 : Nat) : Int) < (l.length : Int) := by omega
            have hn : (0 : Int) ≤ ((k - 1 : Nat) : Int) := by omega
            have y0' := hprev.out w3 Hq3.out (by omega)
            by_cases he : y0 < z0
            · have HT := hid (Hyes.out (by rw [Hat.out, decide_eq_true he, Bool.or_true]; rfl))
              have hle : decide (z0 ≤ y0) = false := decide_eq_false (by omega)
              have hge : decide (y0 ≥ z0) = false := decide_eq_false (by omega)
              clear Hyes Hno Hat hprev
              go_wp2_with fail
              go_quiet (fail)
              go_wp2
              go_roundw
              case rel => exact ⟨k + 1, by omega, by go_num, HT.out, Hp3.out.then_ (pure_drewN _ _)⟩
              case measure => simp [RowKit.intOf]; omega
            · have HF := hid (Hno.out (by rw [Hat.out, decide_eq_false he, decide_eq_false hz0]; rfl))
              have hle : decide (z0 ≤ y0) = true := decide_eq_true (by omega)
              have hge : decide (y0 ≥ z0) = true := decide_eq_true (by omega)
              clear Hyes Hno Hat hprev
              go_wp2_with fail
              go_quiet (fail)
              go_wp2
              go_ret
              exact ⟨by rw [HF.out]; rfl, Hp3.out.then_ (pure_drewN _ _)⟩
      · have hlt' : ¬ (k : Int) < (l.length : Int) := by omega
        obtain rfl : k = l.length := by omega
        have HT := hid (HE.out Hal.out)
        go_wp2
        go_ret
        exact ⟨by rw [HT.out]; rfl, Hp.out⟩
  · have hC2 : C = false := by rw [hC]; unfold vchk; rw [decide_eq_false h100]; rfl
    subst hC2
    have h100' : (l.length : Int) > 64 := by omega
    go_enter Tryz.func119, Tryz.ntmps119
    go_wp2
    go_ret
    exact ⟨rfl, Below.refl _ _⟩
set_option maxRecDepth 8000 in
set_option maxHeartbeats 4000000 in
theorem rhchk_any (v : Value) (l : List Hold) (w : World) (hr : Holds w v l) (hl : l.length ≤ 100000) :
    Calls Tryz.prog 122 #[v] w fun e w' => e = .returned (.int .i64 (er1 (hchk l))) ∧ Pure w w' := by
  obtain ⟨a, cap, rfl⟩ := hr.shape
  obtain ⟨C, hC⟩ : ∃ C, C = hchk l := ⟨_, rfl⟩
  rw [← hC]
  by_cases h100 : l.length ≤ 1000
  · have HB := hid (show ∀ k, k < l.length → hat l k = false → C = false from fun k h e => by rw [hC]; unfold hchk; rw [allB_false h e, Bool.and_false])
    have HE := hid (show allB l.length (hat l) = true → C = true from fun h => by rw [hC]; unfold hchk; rw [h, decide_eq_true h100]; rfl)
    have Hr := hid hr
    have hmmy := hid (fun s W => rmay15_any s W)
    have hles := hid (fun d e W => rless_any d e W)
    unfold dv at hles
    have h100' : ¬ (l.length : Int) > 1000 := by omega
    clear hr hC
    go_enter Tryz.func122, Tryz.ntmps122
    go_wp2_with fail
    go_loopw [3] (fun i wr => ∃ k : Nat, k ≤ l.length ∧ i = .int .i64 k ∧ allB k (hat l) = true ∧ Pure w wr) (fun i _ => l.length - (RowKit.intOf i).toNat)
    case atStart => exact ⟨0, Nat.zero_le _, rfl, rfl, Below.refl _ _⟩
    case round =>
      obtain ⟨k, hk, rfl, hal, hp⟩ := hrel
      have Hal := hid hal
      have Hp := hid hp
      clear hal
      by_cases hlt : k < l.length
      · have hlt' : (k : Int) < (l.length : Int) := by omega
        have Hrow := hid (fun W (hW : Pure wr W) => (show Holds W (.slice a l.length cap) l from Row.pure Hr.out (hp.then_ hW)))
        obtain ⟨b, off, rfl, hb, x0, x1, x2, x3⟩ := Holds.get (Hrow.out wr (Below.refl _ _)) hlt
        have Hno := hid (fun (e : hat l k = false) => HB.out k hlt e)
        have Hyes := hid (fun (e : hat l k = true) => allB_next Hal.out e)
        have Hat := hid (show hat l k = (hmay (l.getD k h0) && (decide (k = 0) || dlt (l.getD (k - 1) h0).1 (l.getD k h0).1)) from rfl)
        have hprev := hid (fun W (hW : Pure wr W) (hk0 : 0 < k) => (show W.cell? ⟨b, off + (k - 1) * 4, none⟩ = some (.int .i64 (l.getD (k - 1) h0).1.1) ∧ W.cell? ⟨b, off + (k - 1) * 4 + 1, none⟩ = some (.int .i64 (l.getD (k - 1) h0).1.2) from by
          obtain ⟨b', off', e', _, y0, y1, _⟩ := Holds.get (Hrow.out W hW) (show k - 1 < l.length by omega)
          cases e'; exact ⟨y0, y1⟩))
        have hmy := hid (fun W => hmmy.out (l.getD k h0) W)
        have hless := hid (fun W => hles.out (l.getD (k - 1) h0).1 (l.getD k h0).1 W)
        generalize l.getD (k - 1) h0 = y at *
        generalize l.getD k h0 = z at *
        obtain ⟨⟨z0, z1⟩, z2, z3⟩ := z
        obtain ⟨⟨y0, y1⟩, y2, y3⟩ := y
        unfold hvv at hmy
        dsimp only at x0 x1 x2 x3 Hat hmy hprev hless
        generalize hmay (((z0, z1), z2, z3) : Hold) = D1 at *
        generalize dlt (y0, y1) (z0, z1) = D3 at *
        have Hx := hid (And.intro hb (And.intro x0 x1))
        clear hp hb
        go_wp2_with fail
        refine (hmy.out _).mono ?_
        rintro e w3 ⟨rfl, hp3⟩
        have Hq3 := hid hp3
        have Hp3 := hid (Hp.out.then_ hp3)
        have x0' := (hp3.cell Hx.out.1).trans Hx.out.2.1
        have x1' := (hp3.cell Hx.out.1).trans Hx.out.2.2
        clear hp3 x0 x1 x2 x3
        cases D1 with
        | false =>
          have HF := hid (Hno.out (by rw [Hat.out]; rfl))
          clear Hyes Hno Hat hprev
          go_wp2_with fail
          go_ret
          exact ⟨by rw [HF.out]; rfl, Hp3.out⟩
        | true =>
          by_cases hz0 : k = 0
          · subst hz0
            have HT := hid (Hyes.out (by rw [Hat.out]; rfl))
            have hd : decide ((0 : Int) < ((0 : Nat) : Int)) = false := by decide
            have hd2 : decide (((0 : Nat) : Int) > 0) = false := by decide
            clear Hyes Hno Hat hprev
            go_wp2_with fail
            go_quiet (fail)
            go_wp2
            go_roundw
            case rel => exact ⟨0 + 1, by omega, by go_num, HT.out, Hp3.out.then_ (pure_drewN _ _)⟩
            case measure => simp [RowKit.intOf]; omega
          · have hd : decide ((0 : Int) < (k : Int)) = true := by simp; omega
            have hd2 : decide ((k : Int) > 0) = true := by simp; omega
            have hd3 : decide (0 < k) = true := decide_eq_true (by omega)
            have hsub : IntKind.i64.wrap ((k : Int) - 1) = ((k - 1 : Nat) : Int) := by rw [IntWalk.i64_in _ (by omega)]; omega
            have hsub2 : (k : Int) - 1 = ((k - 1 : Nat) : Int) := by omega
            have hlt2 : ((k - 1 : Nat) : Int) < (l.length : Int) := by omega
            have hn : (0 : Int) ≤ ((k - 1 : Nat) : Int) := by omega
            have HT' := hid (fun (e : D3 = true) => Hyes.out (by rw [Hat.out, e, Bool.or_true]; rfl))
            have HF' := hid (fun (e : D3 = false) => Hno.out (by rw [Hat.out, e, decide_eq_false hz0]; rfl))
            have Hxx := hid (show b < w3.heap.size from Nat.lt_of_lt_of_le Hx.out.1 Hq3.out.size)
            have Hc0 := hid x0'
            have Hc1 := hid x1'
            have hS : Hid (∀ W, Pure w3 W → (W.cell? ⟨b, off + (k - 1) * 4, none⟩ = some (.int .i64 y0) ∧ W.cell? ⟨b, off + (k - 1) * 4 + 1, none⟩ = some (.int .i64 y1) ∧ W.cell? ⟨b, off + k * 4, none⟩ = some (.int .i64 z0) ∧ W.cell? ⟨b, off + k * 4 + 1, none⟩ = some (.int .i64 z1) ∧ Pure w3 W)) := fun W hW => by
              obtain ⟨y0', y1'⟩ := hprev.out W (Hq3.out.then_ hW) (by omega)
              exact ⟨y0', y1', (hW.cell Hxx.out).trans Hc0.out, (hW.cell Hxx.out).trans Hc1.out, hW⟩
            have hst := hid (hS.out w3.drew (Below.refl _ _).drew)
            have hS2 : Hid (∀ W : World, (W.cell? ⟨b, off + (k - 1) * 4, none⟩ = some (.int .i64 y0) ∧ W.cell? ⟨b, off + (k - 1) * 4 + 1, none⟩ = some (.int .i64 y1) ∧ W.cell? ⟨b, off + k * 4, none⟩ = some (.int .i64 z0) ∧ W.cell? ⟨b, off + k * 4 + 1, none⟩ = some (.int .i64 z1) ∧ Pure w3 W) → Pure w3 W) := fun W h => h.2.2.2.2
            clear Hyes Hno Hat hprev x0' x1'
            generalize hj : k - 1 = j at *
            have hwm : IntKind.i64.wrap (j : Int) = (j : Int) := IntWalk.i64_in _ (by omega)
            cases D3
            case' false => have HQ := hid (HF'.out rfl)
            case' true => have HQ := hid (HT'.out rfl)
            all_goals
              clear HT' HF'
              go_wp2_with fail
              refine wp_region_held_drew (S := (fun W => W.cell? ⟨b, off + j * 4, none⟩ = some (.int .i64 y0) ∧ W.cell? ⟨b, off + j * 4 + 1, none⟩ = some (.int .i64 y1) ∧ W.cell? ⟨b, off + k * 4, none⟩ = some (.int .i64 z0) ∧ W.cell? ⟨b, off + k * 4 + 1, none⟩ = some (.int .i64 z1) ∧ Pure w3 W)) (by kernel_rfl) ?_ (fun hHeld => ?_)
              · first | assumption | with_reducible exact hst.out | with_reducible exact hS.out _ (Pure.then_ (hS2.out _ (by assumption)) hp7)
              refine tkA 0 ?_
              refine tkA 1 ?_
              refine tkA 2 ?_
              refine tkA 3 ?_
              refine tkA 4 ?_
              refine tkA 5 ?_
              refine tkA 6 ?_
              refine tkA 7 ?_
              refine tkA 8 ?_
              refine tkA 9 ?_
              refine tkA 10 ?_
              refine tkA 11 ?_
              refine tkA 12 ?_
              refine tkA 13 ?_
              refine wpAnyH_ready (rs := [14]) (by kernel_rfl) (by simp) ?_
              refine AllReadyH.cons rfl (fun K hK => ?_) AllReadyH.nil
              (try simp only [List.getElem_toArray, List.getElem_cons_succ, List.getElem_cons_zero])
              go_simp
              go_at_call 163; (with_reducible refine (hless.out _).mono ?_); rintro e w7 ⟨rfl, hp7⟩
              refine hK.out _ _ ?_ (fun hHeld => ?_)
              · first | assumption | with_reducible exact hst.out | with_reducible exact hS.out _ (Pure.then_ (hS2.out _ (by assumption)) hp7)
              clear hK K
              try simp only [Act.put, List.setIfInBounds_toArray, List.set_cons_zero, List.set_cons_succ, List.getElem_toArray, List.getElem_cons_succ, List.getElem_cons_zero]
              refine tkA 15 ?_
              refine tkA 16 ?_
              refine wpAnyH_done (by kernel_rfl) ?_ _
              have hx := hid (hS2.out _ (by assumption))
            · go_wp2
              go_roundw
              case rel => exact ⟨k + 1, by omega, by go_num, HQ.out, Hp3.out.then_ hx.out⟩
              case measure => simp [RowKit.intOf]; omega
            · go_wp2
              go_ret
              exact ⟨by rw [HQ.out]; rfl, Hp3.out.then_ hx.out⟩
      · have hlt' : ¬ (k : Int) < (l.length : Int) := by omega
        obtain rfl : k = l.length := by omega
        have HT := hid (HE.out Hal.out)
        go_wp2
        go_ret
        exact ⟨by rw [HT.out]; rfl, Hp.out⟩
  · have hC2 : C = false := by rw [hC]; unfold hchk; rw [decide_eq_false h100]; rfl
    subst hC2
    have h100' : (l.length : Int) > 1000 := by omega
    go_enter Tryz.func122, Tryz.ntmps122
    go_wp2
    go_ret
    exact ⟨rfl, Below.refl _ _⟩
end Go.Proofs.YtdlpnhfgjficgaaGreat
