/- ref08's Has, ref16's Once. ref18's custody, in memory; find, Mark. ref18: Mark, Parts, Lacking. ref18's custody: what a write makes of it. ref18's custody: Heard. ref18's custody: the walk of Heard. ref18's custody: Keep's two writes. ref18's custody: the walk of Keep. -/
import Derived.Test.YtofengnbedebpaaCus7
import Derived.Laws.AppendOwnNone
import Derived.Laws.OwnMore
namespace Go.Proofs.Ytofengnbedebpaa
open Go.RowKit Go.Maps

theorem ints_get {w : World} {a : Option Addr} {n cap : Nat} {l : List Int} (h : Ints w (.slice a n cap) l) {k : Nat} (hk : k < l.length) : ∃ b off, a = some ⟨b, off, none⟩ ∧ w.cell? ⟨b, off + k, none⟩ = some (.int .i64 (l.getD k 0)) := by
  obtain ⟨b, off, e, _, hc⟩ := ints_get_j h hk
  exact ⟨b, off, e, hc⟩
set_option maxHeartbeats 400000 in
theorem has_any (v : Value) (l : List Int) (x : Int) (w : World) (hr : Ints w v l) :
    Calls Try.prog 38 #[v, .int .i64 x] w fun e w' => e = .returned (.bool (decide (x ∈ l))) ∧ w = w' := by
  obtain ⟨a, cap, rfl⟩ := hr.shape
  obtain ⟨_, h1, h2, hc⟩ := hr.cell
  unfold maxLen at h2
  go_enter Try.func38, Try.ntmps38
  go_wp2
  go_loop [5] (fun i => ∃ k : Nat, k ≤ l.length ∧ i = .int .i64 k ∧ x ∉ l.take k) (fun i => l.length - (RowKit.intOf i).toNat)
  case atStart => exact ⟨0, Nat.zero_le _, rfl, by simp⟩
  case round =>
    obtain ⟨k, hk, rfl, hn⟩ := hrel
    by_cases hlt : k < l.length
    · obtain ⟨b, off, rfl, hbw, hcell⟩ : ∃ b off, a = some ⟨b, off, none⟩ ∧ b < w.heap.size ∧ ∀ i, i < l.length → w.cell? ⟨b, off + i, none⟩ = some (.int .i64 (l.getD i 0)) := by
        rcases hc with ⟨h, _⟩ | h
        · rw [h] at hlt; exact absurd hlt (Nat.not_lt_zero _)
        · exact h
      have hcx := hcell k hlt
      by_cases he : x = l.getD k 0
      · have Hx := hid (show decide (x ∈ l) = true by rw [he]; simp [List.getD, hlt])
        have ht : (l.getD k 0 == x) = true := by simpa using he.symm
        clear hcell hc hn he
        generalize l.getD k 0 = y at *
        go_wp2
        go_ret
        exact ⟨ret_bool Hx.out.symm, rfl⟩
      · have hn' := notin_take hlt hn he
        have Hn := hid hn'
        have ht : (l.getD k 0 == x) = false := by simpa using fun e => he e.symm
        clear hcell hc hn he hn'
        generalize l.getD k 0 = y at *
        go_wp2
        go_round
        case rel => exact ⟨k + 1, by omega, by go_num, Hn.out⟩
        case measure => simp [RowKit.intOf]; omega
    · have Hx := hid (show decide (x ∈ l) = false by rw [List.take_of_length_le (by omega)] at hn; simpa using hn)
      clear hc hn
      go_wp2
      go_ret
      exact ⟨ret_bool Hx.out.symm, rfl⟩


set_option maxHeartbeats 1000000 in
theorem once16_any (v : Value) (l : List Int) (w : World) (hr : Ints w v l) (hl : l.length ≤ 1000000) :
    Calls Try.prog 39 #[v] w fun e w' => ∃ v', e = .returned v' ∧ w'.ownsRow w.heap.size 3 1 v' (dd l).length ((dd l).map (Value.int .i64)) ∧ Pure w w' := by
  obtain ⟨a, cap, rfl⟩ := hr.shape
  obtain ⟨i0, hi, hz0, hz1, hz2⟩ := info_parts infoInt
  have Hr := hid hr
  clear hr
  go_enter Try.func39, Try.ntmps39
  go_wp2
  go_loopw [3, 4] (fun v i wr => ∃ k : Nat, k ≤ l.length ∧ i = .int .i64 k ∧ wr.ownsRow w.heap.size 3 1 v (dd (l.take k)).length ((dd (l.take k)).map (Value.int .i64)) ∧ Pure w wr)
    (fun _ i _ => l.length - (RowKit.intOf i).toNat)
  case atStart => exact ⟨0, Nat.zero_le _, rfl, World.ownsRow_nil _ _ _ _, Below.refl _ _⟩
  case round =>
    obtain ⟨k, hk, rfl, hown, hb⟩ := hrel
    by_cases hlt : k < l.length
    · obtain ⟨bl, off, rfl, hcx⟩ := ints_get (show Ints wr (.slice a l.length cap) l from Row.pure Hr.out hb) hlt
      obtain ⟨a3, c3, rfl⟩ := (Row.of_own hown).shape
      have hh := has_any _ _ (l.getD k 0) wr (show Ints wr _ _ from Row.of_own hown)
      have Hdd := hid (dd_take l k hlt)
      have hdl := dd_len (l.take k)
      simp only [List.length_take] at hdl
      have hlt' : (k : Int) < (l.length : Int) := by omega
      have Hown := hid hown
      have Hb := hid hb
      clear hown hb
      generalize l.getD k 0 = x at *
      by_cases hm : x ∈ dd (l.take k)
      · rw [decide_eq_true hm] at hh
        have Hm := hid hm
        have Hh := hid hh
        clear hm hh
        go_wp2_with (go_at_call 38; refine Hh.out.mono ?_; rintro e w' ⟨rfl, rfl⟩)
        go_roundw
        case rel => exact ⟨k + 1, by omega, by go_num, by rw [Hdd.out, if_pos Hm.out]; exact Hown.out, Hb.out⟩
        case measure => simp [RowKit.intOf]; omega
      · rw [decide_eq_false hm] at hh
        have Hm := hid hm
        have Hh := hid hh
        clear hm hh
        go_wp2_with (first
          | (go_at_call 38; refine Hh.out.mono ?_; rintro e w' ⟨rfl, rfl⟩)
          | (at_builtin; refine wpList_append_own _ rfl _ _ 23 rfl w.heap.size 3 i0 (.int .i64 0) 1 8 Try.underlying23 hi hz0 hz1 hz2 rfl (by decide) _ _ _ rfl (Hown.out.alloc _) ⟨wr.heap.size, 0, none⟩ 1 1 [.int .i64 x] rfl rfl hnews_one ?c2 ?c3 ?c4 ?c5 ?_))
        case c2 => intro u hu; simp at hu; subst hu; rfl
        case c3 => unfold maxLen; omega
        case c4 => omega
        case c5 => have := Hb.out.size; simp; omega
        intro v' w2 hown2 hg2 _
        have Hown2 := hid hown2
        have Hg2 := hid hg2
        clear hown2 hg2
        go_wp2
        go_roundw
        case rel =>
          refine ⟨k + 1, by omega, by go_num, ?_, ?_⟩
          · rw [Hdd.out, if_neg Hm.out]; exact ownsRow_snoc Hown2.out
          · exact (Hb.out.alloc Hb.out.size _).grown Hg2.out (by have := Hb.out.size; simp; omega) (fun j hj => (Hown.out.lt j hj).1)
        case measure => simp [RowKit.intOf]; omega
    · have e : l.take k = l := List.take_of_length_le (by omega)
      rw [e] at hown
      obtain ⟨a3, c3, rfl⟩ := (Row.of_own hown).shape
      have Hown := hid hown
      have Hb := hid hb
      clear hown hb e
      go_wp2
      go_ret
      exact ⟨_, rfl, Hown.out, Hb.out⟩

end Go.Proofs.Ytofengnbedebpaa

namespace Go.Proofs.Ytofengnbedebpaa
open Go.RowKit Go.Maps

def ec (hv : Int → Value) (e : CEnt) : List Value := [.int .i64 e.1, .string (bs e.2.1), hv e.1]
def ecs (hv : Int → Value) (R : CuS) : List Value := R.flatMap (ec hv)
def e0 : CEnt := (0, [], [])
theorem ecs_len (hv : Int → Value) (R : CuS) : (ecs hv R).length = R.length * 3 := by
  induction R with
  | nil => rfl
  | cons d l ih => simp [ecs, ec] at *; omega
theorem ecs_append (hv : Int → Value) (R T : CuS) : ecs hv (R ++ T) = ecs hv R ++ ecs hv T := by simp [ecs]
theorem ecs_get (hv : Int → Value) : ∀ (R : CuS) (k : Nat), k < R.length → ∀ j, j < 3 → (ecs hv R)[k * 3 + j]? = (ec hv (R.getD k e0))[j]?
  | [], k, h, _, _ => absurd h (Nat.not_lt_zero _)
  | d :: l, 0, _, j, hj => by
    have e : ecs hv (d :: l) = ec hv d ++ ecs hv l := rfl
    rw [e, List.getElem?_append_left (by simp [ec]; omega)]
    simp [List.getD]
  | d :: l, k + 1, h, j, hj => by
    have ih := ecs_get hv l k (by simpa using h) j hj
    have e : ecs hv (d :: l) = ec hv d ++ ecs hv l := rfl
    have hl : (ec hv d).length = 3 := rfl
    rw [e, List.getElem?_append_right (by rw [hl]; omega), hl, show (k + 1) * 3 + j - 3 = k * 3 + j by omega, ih]
    simp [List.getD]
theorem take_succ_e (l : CuS) (k : Nat) (h : k < l.length) : l.take (k + 1) = l.take k ++ [l.getD k e0] := by
  rw [List.take_succ_eq_append_getElem h]; simp [List.getD, h]
theorem mem_get_e {l : CuS} {k : Nat} (h : k < l.length) : l.getD k e0 ∈ l := by simp [List.getD, h]

/-- The reference's custody. -/
structure RAt (w : World) (r : Nat) (R : CuS) (vL : Value) (hv : Int → Value) : Prop where
  blk : w.heap[r]? = some (.cells #[vL] 54 (0, 0))
  row : w.ownsRow (r + 1) 83 3 vL R.length (ecs hv R)
  sets : ∀ e ∈ R, w.ownsRow (r + 1) 3 1 (hv e.1) e.2.2.length (e.2.2.map (Value.int .i64))
  ap : ∀ e ∈ R, ∀ g, (hv e.1).ownBlock = some g → vL.ownBlock ≠ some g
  ap2 : ∀ e ∈ R, ∀ f ∈ R, e.1 ≠ f.1 → ∀ g, (hv e.1).ownBlock = some g → (hv f.1).ownBlock ≠ some g
  nd : (R.map (·.1)).Nodup
theorem RAt.pure {w w' : World} {r : Nat} {R : CuS} {vL : Value} {hv : Int → Value} (h : RAt w r R vL hv) (hp : Pure w w') : RAt w' r R vL hv :=
  ⟨(hp.block _ (lt_of_block h.blk)).trans h.blk, own_pure h.row hp, fun e he => own_pure (h.sets e he) hp, h.ap, h.ap2, h.nd⟩
theorem RAt.get {w : World} {r : Nat} {R : CuS} {a : Option Addr} {n cap : Nat} {hv : Int → Value} (h : RAt w r R (.slice a n cap) hv) {k : Nat} (hk : k < R.length) :
    ∃ b, a = some ⟨b, 0, none⟩ ∧ b < w.heap.size ∧ w.cell? ⟨b, k * 3, none⟩ = some (.int .i64 (R.getD k e0).1) ∧ w.cell? ⟨b, k * 3 + 1, none⟩ = some (.string (bs (R.getD k e0).2.1)) ∧ w.cell? ⟨b, k * 3 + 2, none⟩ = some (hv (R.getD k e0).1) := by
  obtain ⟨hl, ⟨e, h0⟩ | ⟨g, cap', cur, e, hb, hg, h1, h2, h3, h4⟩⟩ := h.row
  · omega
  · injection e with e1 e2 e3
    subst e1
    have hcell : ∀ i, i < R.length * 3 → w.cell? ⟨g, i, none⟩ = (ecs hv R)[i]? := fun i hi => by
      rw [cell_of_block hg, ← h4, List.getElem?_take, if_pos hi]; simp
    have g := ecs_get hv R k hk
    exact ⟨_, rfl, lt_of_block hg, (hcell _ (by omega)).trans (g 0 (by omega)), (hcell _ (by omega)).trans (g 1 (by omega)), (hcell _ (by omega)).trans (g 2 (by omega))⟩

def rix : CuS → Int → Int
  | [], _ => -1
  | e :: R, p => if e.1 == p then 0 else if rix R p < 0 then -1 else rix R p + 1
theorem rix_none : ∀ {R : CuS} {p : Int}, (∀ e ∈ R, e.1 ≠ p) → rix R p = -1
  | [], _, _ => rfl
  | e :: R, p, h => by
    have h1 : (e.1 == p) = false := by simpa using h e (by simp)
    have ih := rix_none (R := R) (p := p) (fun f hf => h f (by simp [hf]))
    simp [rix, h1, ih]
theorem rix_hit : ∀ {R : CuS} {p : Int} {k : Nat}, k < R.length → (∀ e ∈ R.take k, e.1 ≠ p) → (R.getD k e0).1 = p → rix R p = k
  | [], _, k, hk, _, _ => absurd hk (Nat.not_lt_zero _)
  | e :: R, p, 0, _, _, hp => by
    have : e.1 = p := by simpa [List.getD] using hp
    simp [rix, this]
  | e :: R, p, k + 1, hk, hn, hp => by
    have h1 : (e.1 == p) = false := by simpa using hn e (by simp)
    have ih := rix_hit (R := R) (p := p) (k := k) (by simpa using hk) (fun f hf => hn f (by simp [hf])) (by simpa [List.getD] using hp)
    have h2 : ¬ ((k : Int) < 0) := by omega
    simp [rix, h1, ih, h2]

set_option maxHeartbeats 1000000 in
theorem rfind_any (r : Nat) (R : CuS) (vL : Value) (hv : Int → Value) (p : Int) (w : World) (h : RAt w r R vL hv) (hl : R.length ≤ 1000) :
    Calls Try.prog 36 #[.pointer (some ⟨r, 0, none⟩), .int .i64 p] w fun e w' => e = .returned (.int .i64 (rix R p)) ∧ w = w' := by
  have k0 : w.cell? ⟨r, 0, none⟩ = some vL := cell_of_block h.blk 0
  obtain ⟨a, cap, rfl⟩ := own_shape_d h.row
  have H := hid h
  clear h
  go_enter Try.func36, Try.ntmps36
  go_wp2
  go_loop [5] (fun i => ∃ k : Nat, k ≤ R.length ∧ i = .int .i64 k ∧ ∀ e ∈ R.take k, e.1 ≠ p) (fun i => R.length - (RowKit.intOf i).toNat)
  case atStart => exact ⟨0, Nat.zero_le _, rfl, by simp⟩
  case round =>
    obtain ⟨k, hk, rfl, hno⟩ := hrel
    by_cases hlt : k < R.length
    · obtain ⟨b, rfl, hb, c0, c1, c2⟩ := H.out.get hlt
      have hlt' : (k : Int) < (R.length : Int) := by omega
      have Hstep : Hid ((R.getD k e0).1 ≠ p → ∀ e ∈ R.take (k + 1), e.1 ≠ p) := fun h e he => by
        rw [take_succ_e R k hlt, List.mem_append, List.mem_singleton] at he
        rcases he with he | rfl
        · exact hno e he
        · exact h
      have Hhit := hid (rix_hit hlt hno)
      clear hno c1 c2
      generalize (R.getD k e0).1 = z at *
      by_cases he : z = p
      · subst he
        have Hx := hid (Hhit.out rfl)
        go_wp2
        go_ret
        exact ⟨ret_int Hx.out.symm, rfl⟩
      · have he' : (z == p) = false := by simp [he]
        have Hs := hid (Hstep.out he)
        go_wp2
        go_round
        case rel => exact ⟨k + 1, by omega, by go_num, Hs.out⟩
        case measure => simp [RowKit.intOf]; omega
    · have hlt' : ¬ (k : Int) < (R.length : Int) := by omega
      rw [List.take_of_length_le (by omega)] at hno
      have Hx := hid (rix_none hno)
      clear hno
      go_wp2
      go_ret
      exact ⟨ret_int Hx.out.symm, rfl⟩
end Go.Proofs.Ytofengnbedebpaa

namespace Go.Proofs.Ytofengnbedebpaa
open Go.RowKit Go.Maps

theorem rix_cases (R : CuS) (p : Int) : (cfind R p = none ∧ rix R p = -1) ∨ ∃ k, k < R.length ∧ cfind R p = some (R.getD k e0) ∧ rix R p = (k : Int) := by
  induction R with
  | nil => exact .inl ⟨rfl, rfl⟩
  | cons e R ih =>
    by_cases h : e.1 = p
    · refine .inr ⟨0, by simp, ?_, ?_⟩
      · simp [cfind, h, List.getD]
      · simp [rix, h]
    · have h1 : (e.1 == p) = false := by simpa using h
      rcases ih with ⟨h2, h3⟩ | ⟨k, hk, h2, h3⟩
      · left
        refine ⟨by simpa [cfind, h1] using h2, by simp [rix, h1, h3]⟩
      · right
        refine ⟨k + 1, by simpa using hk, ?_, ?_⟩
        · have : cfind (e :: R) p = cfind R p := by simp [cfind, h1]
          rw [this, h2]; simp [List.getD]
        · have h4 : ¬ ((k : Int) < 0) := by omega
          simp [rix, h1, h3, h4]

set_option maxHeartbeats 1000000 in
theorem rmark_any (r : Nat) (R : CuS) (vL : Value) (hv : Int → Value) (p : Int) (w : World) (h : RAt w r R vL hv) (hl : R.length ≤ 1000) :
    Calls Try.prog 24 #[.pointer (some ⟨r, 0, none⟩), .int .i64 p] w fun e w' => e = .returned (.string (bs (cmark R p))) ∧ w = w' := by
  have hf := hid (rfind_any r R vL hv p w h hl)
  have k0 : w.cell? ⟨r, 0, none⟩ = some vL := cell_of_block h.blk 0
  obtain ⟨a, cap, rfl⟩ := own_shape_d h.row
  have H := hid h
  clear h
  unfold cmark
  rcases rix_cases R p with ⟨h1, h2⟩ | ⟨k, hk, h1, h2⟩
  · rw [h2] at hf
    rw [h1]
    clear h1 h2
    go_enter Try.func24, Try.ntmps24
    go_wp2_with (go_at_call 36; refine hf.out.mono ?_; rintro e w' ⟨rfl, rfl⟩)
    go_ret
    exact ⟨rfl, rfl⟩
  · rw [h2] at hf
    rw [h1]
    obtain ⟨b, rfl, hb, c0, c1, c2⟩ := H.out.get hk
    have hk' : (k : Int) < (R.length : Int) := by omega
    have hk0 : (0 : Int) ≤ (k : Int) := by omega
    have hk00 : ¬ (k : Int) < 0 := by omega
    clear h1 h2 c0 c2
    dsimp only [Option.map_some, Option.getD_some]
    generalize bs (R.getD k e0).2.1 = M at *
    go_enter Try.func24, Try.ntmps24
    go_wp2_with (go_at_call 36; refine hf.out.mono ?_; rintro e w' ⟨rfl, rfl⟩)
    go_ret
    exact ⟨rfl, rfl⟩

set_option maxHeartbeats 1000000 in
theorem rparts_any (r : Nat) (R : CuS) (vL : Value) (hv : Int → Value) (w : World) (h : RAt w r R vL hv) (hl : R.length ≤ 1000) :
    Calls Try.prog 22 #[.pointer (some ⟨r, 0, none⟩)] w fun e w' => ∃ v', e = .returned v' ∧ w'.ownsRow w.heap.size 3 1 v' (R.map (·.1)).length ((R.map (·.1)).map (Value.int .i64)) ∧ Pure w w' := by
  obtain ⟨a, cap, rfl⟩ := own_shape_d h.row
  have H := hid h
  clear h
  go_enter Try.func22, Try.ntmps22
  go_wp2
  go_loopw [3, 4] (fun v i wr => ∃ k : Nat, k ≤ R.length ∧ i = .int .i64 k ∧ wr.ownsRow w.heap.size 3 1 v ((R.take k).map (·.1)).length (((R.take k).map (·.1)).map (Value.int .i64)) ∧ Pure w wr) (fun _ i _ => R.length - (RowKit.intOf i).toNat)
  case atStart => exact ⟨0, Nat.zero_le _, rfl, World.ownsRow_nil _ _ _ _, Below.refl _ _⟩
  case round =>
    obtain ⟨k, hk, rfl, hown, hp⟩ := hrel
    have k0 : wr.cell? ⟨r, 0, none⟩ = some (.slice a R.length cap) := cell_of_block (H.out.pure hp).blk 0
    by_cases hlt : k < R.length
    · obtain ⟨b, rfl, hb, c0, -, -⟩ := (H.out.pure hp).get hlt
      have hlt' : (k : Int) < (R.length : Int) := by omega
      have Hstep : Hid ((R.take (k + 1)).map (·.1) = (R.take k).map (·.1) ++ [(R.getD k e0).1]) := by
        show _ = _
        rw [take_succ_e R k hlt]; simp
      have hfl : ((R.take k).map (·.1)).length ≤ 1000 := by simp; omega
      generalize (R.take k).map (·.1) = Y at *
      obtain ⟨a3, c3, rfl⟩ := own_shape_d hown
      have Hown := hid hown
      have Hp := hid hp
      clear hown hp
      generalize (R.getD k e0).1 = z at *
      have b4 : w.heap.size ≤ (wr.alloc (.cells #[.int .i64 z] 3)).heap.size := by have := Hp.out.size; simp; omega
      go_wp2_with (at_builtin; refine wpList_append_ints1 rfl _ _ rfl w.heap.size _ Y Y.length rfl (Hown.out.alloc _) _ [z] 1 rfl (ints_lit1 wr z) (by omega) b4 ?_)
      intro v3 w3 hown3 hg3
      have Hown3 := hid hown3
      have hpn := hid ((Hp.out.alloc Hp.out.size _).grown hg3 b4 (fun k hk => (Hown.out.lt k hk).1))
      clear hown3 hg3
      go_wp2
      go_roundw
      case rel => exact ⟨k + 1, by omega, by go_num, by rw [Hstep.out]; simpa using Hown3.out, hpn.out⟩
      case measure => simp [RowKit.intOf]; omega
    · have hlt' : ¬ (k : Int) < (R.length : Int) := by omega
      rw [List.take_of_length_le (by omega), List.length_map] at hown
      obtain ⟨a3, c3, rfl⟩ := own_shape_d hown
      have Hown := hid hown
      have Hp := hid hp
      clear hp hown
      go_wp2
      go_ret
      have hq := Hown.out
      rw [List.map_map] at hq
      exact ⟨_, rfl, hq, Hp.out⟩

theorem ddo_filter (p : Int → Bool) : ∀ (l acc : List Int), (ddo acc l).filter p = ddo (acc.filter p) (l.filter p)
  | [], _ => rfl
  | x :: l, acc => by
    show (ddo (if x ∈ acc then acc else acc ++ [x]) l).filter p = _
    rw [ddo_filter p l]
    by_cases hx : p x = true
    · rw [List.filter_cons_of_pos hx]
      show _ = ddo (if x ∈ acc.filter p then acc.filter p else acc.filter p ++ [x]) (l.filter p)
      by_cases hm : x ∈ acc
      · rw [if_pos hm, if_pos (List.mem_filter.2 ⟨hm, hx⟩)]
      · rw [if_neg hm, if_neg (fun h => hm (List.mem_filter.1 h).1), List.filter_append, List.filter_cons_of_pos hx]; rfl
    · rw [List.filter_cons_of_neg hx]
      by_cases hm : x ∈ acc
      · rw [if_pos hm]
      · rw [if_neg hm, List.filter_append, List.filter_cons_of_neg hx, List.filter_nil, List.append_nil]
theorem dd_filter (p : Int → Bool) (l : List Int) : (dd l).filter p = dd (l.filter p) := by unfold dd; rw [ddo_filter]; rfl

set_option maxRecDepth 8000 in
set_option maxHeartbeats 2000000 in
theorem rlack_any (r : Nat) (R : CuS) (vL : Value) (hv : Int → Value) (p : Int) (v : Value) (o : List Int) (w : World) (h : RAt w r R vL hv) (hl : R.length ≤ 1000) (ho : Ints w v o) (hol : o.length ≤ 1000) :
    Calls Try.prog 23 #[.pointer (some ⟨r, 0, none⟩), .int .i64 p, v] w fun e w' => ∃ v', e = .returned v' ∧ w'.ownsRow w.heap.size 3 1 v' (clack R p o).length ((clack R p o).map (Value.int .i64)) ∧ Pure w w' := by
  have hf := hid (rfind_any r R vL hv p w h hl)
  have hon := hid (once16_any v o w ho (by omega))
  obtain ⟨a, cap, rfl⟩ := own_shape_d h.row
  have H := hid h
  obtain ⟨av, cv, rfl⟩ := ho.shape
  clear h ho
  unfold clack
  rcases rix_cases R p with ⟨h1, h2⟩ | ⟨k, hk, h1, h2⟩
  · rw [h2] at hf
    rw [h1]
    clear h1 h2
    go_enter Try.func23, Try.ntmps23
    go_wp2_with (go_at_call 36; refine hf.out.mono ?_; rintro e w' ⟨rfl, rfl⟩)
    go_ret
    exact ⟨_, rfl, World.ownsRow_nil _ _ _ _, Below.refl _ _⟩
  · rw [h2] at hf
    rw [h1]
    dsimp only
    have hdf := hid (dd_filter (fun x => decide (x ∉ (R.getD k e0).2.2)) o)
    rw [← hdf.out]
    have hmem := mem_get_e hk
    have hk' : (k : Int) < (R.length : Int) := by omega
    have hk0 : (0 : Int) ≤ (k : Int) := by omega
    have hk00 : ¬ (k : Int) < 0 := by omega
    have hcells : Hid (∀ W, Pure w W → ∃ b, a = some ⟨b, 0, none⟩ ∧ W.cell? ⟨r, 0, none⟩ = some (.slice a R.length cap) ∧ W.cell? ⟨b, k * 3 + 2, none⟩ = some (hv (R.getD k e0).1) ∧ Ints W (hv (R.getD k e0).1) (R.getD k e0).2.2) := fun W hW => by
      obtain ⟨b, e, _, _, _, c2⟩ := (H.out.pure hW).get hk
      exact ⟨b, e, cell_of_block (H.out.pure hW).blk 0, c2, Row.of_own ((H.out.pure hW).sets _ hmem)⟩
    clear h1 h2 hmem hdf
    generalize hTe : (R.getD k e0).2.2 = T at *
    have HT := hid hTe
    clear hTe
    generalize hv (R.getD k e0).1 = vh at *
    go_enter Try.func23, Try.ntmps23
    go_wp2_with (go_at_call 36; refine hf.out.mono ?_; rintro e w' ⟨rfl, rfl⟩)
    have hdl := dd_len o
    generalize hO : dd o = O at *
    have HO := hid hO
    clear hO
    go_wp2_with fail
    refine hon.out.mono ?_
    rintro e w1 ⟨v8, rfl, hown8, hp1⟩
    have hints := Row.of_own hown8
    obtain ⟨a8, c8, rfl⟩ := own_shape_d hown8
    have HI := hid (show Ints w1 (.slice a8 O.length c8) O from hints)
    have Hp1 := hid hp1
    clear hints hp1 hown8
    go_wp2
    go_loopw [9, 10, 11] (fun v i _ wr => ∃ j : Nat, j ≤ O.length ∧ i = .int .i64 j ∧ wr.ownsRow w1.heap.size 3 1 v ((O.take j).filter fun x => decide (x ∉ T)).length (((O.take j).filter fun x => decide (x ∉ T)).map (Value.int .i64)) ∧ Pure w1 wr) (fun _ i _ _ => O.length - (RowKit.intOf i).toNat)
    case atStart => exact ⟨0, Nat.zero_le _, rfl, World.ownsRow_nil _ _ _ _, Below.refl _ _⟩
    case round =>
      obtain ⟨j, hj, rfl, hown, hp⟩ := hrel
      by_cases hlt : j < O.length
      · have hlt' : (j : Int) < (O.length : Int) := by omega
        obtain ⟨b, rfl, q0, q2, hT⟩ := hcells.out wr (Hp1.out.then_ hp)
        obtain ⟨bo, oo, rfl, hx⟩ := ints_get (show Ints wr (.slice a8 O.length c8) O from Row.pure HI.out hp) hlt
        have Hstep : Hid ((O.take (j + 1)).filter (fun x => decide (x ∉ T)) = (O.take j).filter (fun x => decide (x ∉ T)) ++ if decide (O.getD j 0 ∈ T) then [] else [O.getD j 0]) := by
          show _ = _
          rw [take_succ_get O j hlt, List.filter_append]
          by_cases h : O.getD j 0 ∈ T
          · simp only [h, decide_true, if_true]
            rw [List.filter_cons_of_neg (by simpa using h), List.filter_nil]
          · simp only [h, decide_false]
            rw [List.filter_cons_of_pos (by simpa using h), List.filter_nil]
            rfl
        have hfl : ((O.take j).filter fun x => decide (x ∉ T)).length ≤ 1000 := Nat.le_trans (List.length_filter_le _ _) (by rw [List.length_take]; omega)
        have hh := hid (fun n => (has_any vh T (O.getD j 0) (wr.drewN n) (Row.pure hT (pure_drewN wr n))).mono (R' := fun r w' => r = .returned (.bool (decide (O.getD j 0 ∈ T))) ∧ ∃ m, w' = (wr.drewN n).drewN m) fun _ _ ⟨h1, h2⟩ => ⟨h1, 0, h2.symm⟩)
        generalize (O.take j).filter (fun x => decide (x ∉ T)) = Y at *
        obtain ⟨a3, c3, rfl⟩ := own_shape_d hown
        have Hown := hid hown
        have Hp := hid hp
        obtain ⟨ah, ch, rfl⟩ := hT.shape
        have HTl := hid hT
        clear hown hp hT
        generalize O.getD j 0 = x at *
        cases hD : decide (x ∈ T) with
        | true =>
          rw [hD] at hh Hstep
          clear hD
          go_wp2_with fail
          go_quiet ((go_at_call 38; exact Calls.quiet_of (hh.out _)))
          go_wp2
          go_roundw
          case rel => exact ⟨j + 1, by omega, by go_num, by rw [Hstep.out]; simpa using own_pure Hown.out (pure_drewN _ _), Hp.out.then_ (pure_drewN _ _)⟩
          case measure => simp [RowKit.intOf]; omega
        | false =>
          rw [hD] at hh Hstep
          clear hD
          have Hdr := hid (fun n => own_pure Hown.out (pure_drewN wr n))
          have Hpd := hid (fun n => Hp.out.then_ (pure_drewN wr n))
          have Hb5 := hid (fun n => (show w1.heap.size ≤ ((wr.drewN n).alloc (.cells #[.int .i64 x] 3)).heap.size from by have := Hp.out.size; simp; omega))
          go_wp2_with fail
          go_quiet ((go_at_call 38; exact Calls.quiet_of (hh.out _)))
          go_wp2_with (at_builtin; refine wpList_append_ints1 rfl _ _ rfl w1.heap.size _ Y Y.length rfl ((Hdr.out _).alloc _) _ [x] 1 rfl (ints_lit1 _ x) (by omega) (Hb5.out _) ?_)
          intro v3 w3 hown3 hg3
          have Hown3 := hid hown3
          have hpn := hid (((Hpd.out _).alloc (Hpd.out _).size _).grown hg3 (by have := Hp.out.size; simp; omega) (fun k hk => (Hown.out.lt k hk).1))
          clear hown3 hg3
          go_wp2
          go_roundw
          case rel => exact ⟨j + 1, by omega, by go_num, by rw [Hstep.out]; simpa using Hown3.out, hpn.out⟩
          case measure => simp [RowKit.intOf]; omega
      · have hlt' : ¬ (j : Int) < (O.length : Int) := by omega
        rw [List.take_of_length_le (by omega)] at hown
        obtain ⟨a3, c3, rfl⟩ := own_shape_d hown
        have Hown := hid (own_mono hown Hp1.out.size)
        have Hp := hid (Hp1.out.then_ hp)
        clear hp hown
        generalize hF : O.filter (fun x => decide (x ∉ T)) = F at *
        have HF := hid hF
        have HF2 := hid (show O.filter (fun x => !decide (x ∈ T)) = F from by rw [← hF]; exact List.filter_congr (fun x _ => by simp))
        clear hF
        go_wp2
        go_ret
        exact ⟨_, rfl, by rw [HO.out, HF2.out]; exact Hown.out, Hp.out⟩
end Go.Proofs.Ytofengnbedebpaa

namespace Go.Proofs.Ytofengnbedebpaa
open Go.RowKit Go.Maps

theorem ecs_congr {hv hv' : Int → Value} {R : CuS} (h : ∀ e ∈ R, hv e.1 = hv' e.1) : ecs hv R = ecs hv' R := by
  induction R with
  | nil => rfl
  | cons e R ih =>
    have h1 : ecs hv (e :: R) = ec hv e ++ ecs hv R := rfl
    have h2 : ecs hv' (e :: R) = ec hv' e ++ ecs hv' R := rfl
    rw [h1, h2, ih (fun f hf => h f (by simp [hf]))]
    unfold ec
    rw [h e (by simp)]
theorem ecs_upd (hv : Int → Value) (v' : Value) (m : List UInt8) (l : List Int) : ∀ (R : CuS) (k : Nat) (p : Int), k < R.length → (R.getD k e0).1 = p → (R.map (·.1)).Nodup →
    ecs (fun q => if q = p then v' else hv q) (cset R p m l) = ((ecs hv R).set (k * 3 + 1) (.string (bs m))).set (k * 3 + 2) v'
  | [], _, _, h, _, _ => absurd h (Nat.not_lt_zero _)
  | e :: R, 0, p, _, hp, hnd => by
    have hep : e.1 = p := by simpa [List.getD] using hp
    simp only [List.map_cons, List.nodup_cons] at hnd
    have h1 : cset (e :: R) p m l = (p, m, l) :: R := by simp [cset, hep]
    rw [h1]
    have h2 : ecs (fun q => if q = p then v' else hv q) ((p, m, l) :: R) = [.int .i64 p, .string (bs m), v'] ++ ecs (fun q => if q = p then v' else hv q) R := by
      have : ec (fun q => if q = p then v' else hv q) (p, m, l) = [.int .i64 p, .string (bs m), v'] := by simp [ec]
      rw [← this]; rfl
    have h3 : ecs (fun q => if q = p then v' else hv q) R = ecs hv R := ecs_congr (fun f hf => by
      have : f.1 ≠ p := fun h => hnd.1 (by rw [hep, ← h]; exact List.mem_map.2 ⟨f, hf, rfl⟩)
      simp [this])
    have h4 : ecs hv (e :: R) = .int .i64 e.1 :: .string (bs e.2.1) :: hv e.1 :: ecs hv R := rfl
    rw [h2, h3, h4, hep]
    rfl
  | e :: R, k + 1, p, hk, hp, hnd => by
    simp only [List.map_cons, List.nodup_cons] at hnd
    have hp' : (R.getD k e0).1 = p := by simpa [List.getD] using hp
    have hk' : k < R.length := by simpa using hk
    have hep : e.1 ≠ p := fun h => hnd.1 (by rw [h, ← hp']; exact List.mem_map.2 ⟨_, mem_get_e hk', rfl⟩)
    have h0 : (e.1 == p) = false := by simpa using hep
    have h1 : cset (e :: R) p m l = e :: cset R p m l := by simp [cset, h0]
    have ih := ecs_upd hv v' m l R k p hk' hp' hnd.2
    have h2 : ecs (fun q => if q = p then v' else hv q) (e :: cset R p m l) = .int .i64 e.1 :: .string (bs e.2.1) :: hv e.1 :: ecs (fun q => if q = p then v' else hv q) (cset R p m l) := by
      have : ec (fun q => if q = p then v' else hv q) e = [.int .i64 e.1, .string (bs e.2.1), hv e.1] := by simp [ec, hep]
      have h5 : ecs (fun q => if q = p then v' else hv q) (e :: cset R p m l) = ec (fun q => if q = p then v' else hv q) e ++ ecs (fun q => if q = p then v' else hv q) (cset R p m l) := rfl
      rw [h5, this]; rfl
    have h4 : ecs hv (e :: R) = .int .i64 e.1 :: .string (bs e.2.1) :: hv e.1 :: ecs hv R := rfl
    rw [h1, h2, ih, h4, show (k + 1) * 3 + 1 = k * 3 + 1 + 1 + 1 + 1 by omega, show (k + 1) * 3 + 2 = k * 3 + 2 + 1 + 1 + 1 by omega]
    simp only [List.set_cons_succ]

/-- What follows leaves alone: blocks below r; maps. -/
structure KM (r : Nat) (w w' : World) : Prop where
  os : w'.os = w.os
  tape : w'.tape = w.tape
  output : w'.output = w.output
  size : w.heap.size ≤ w'.heap.size
  low : ∀ k, k < r → k < w.heap.size → w'.heap[k]? = w.heap[k]?
  maps : ∀ (k : Nat) es cl, w.heap[k]? = some (.map es cl) → w'.heap[k]? = some (.map es cl)
namespace KM
variable {r : Nat} {a b d : World}
theorem refl (r : Nat) (w : World) : KM r w w := ⟨rfl, rfl, rfl, Nat.le_refl _, fun _ _ _ => rfl, fun _ _ _ h => h⟩
theorem trans (h : KM r a b) (k : KM r b d) : KM r a d :=
  ⟨k.os.trans h.os, k.tape.trans h.tape, k.output.trans h.output, Nat.le_trans h.size k.size, fun i hi hs => (k.low i hi (Nat.lt_of_lt_of_le hs h.size)).trans (h.low i hi hs), fun i es cl hb => k.maps i es cl (h.maps i es cl hb)⟩
theorem pure (h : Pure a b) : KM r a b :=
  ⟨h.os, h.tape, h.output, h.size, fun i _ hs => h.block i hs, fun i _ _ hb => (h.block i (lt_of_block hb)).trans hb⟩
theorem grown {row : Option Nat} (h : KM r a b) (hg : b.grownBy d row) (hr : ∀ g, row = some g → r ≤ g ∧ ∃ cs t f, b.heap[g]? = some (.cells cs t f)) : KM r a d :=
  h.trans ⟨hg.os, hg.tape, hg.output, hg.size, fun i hi hs => hg.block i hs (fun e => by have := (hr i e.symm).1; omega), fun i es cl hb => (hg.block i (lt_of_block hb) (fun e => by
    obtain ⟨_, cs, t, f, hx⟩ := hr i e.symm
    rw [hb] at hx; cases hx)).trans hb⟩
theorem setCell (h : KM r a b) {g : Nat} (hg : r ≤ g) {cs : Array Value} {t : TypeId} {f : Nat × Nat} (hb : b.heap[g]? = some (.cells cs t f)) (i : Nat) (v : Value) : KM r a (b.setCell ⟨g, i, none⟩ v) :=
  h.trans ⟨rfl, rfl, rfl, by simp [World.setCell], fun k hk _ => Below.heap_setCell _ _ _ _ (fun e => by subst e; exact absurd hg (Nat.not_le.2 hk)), fun k es cl hk => (Below.heap_setCell _ _ _ _ (fun e => by
    have hb' : b.heap[k]? = some (.cells cs t f) := by rw [e]; exact hb
    rw [hk] at hb'; cases hb')).trans hk⟩
end KM
theorem Cu.km {w w' : World} {base c r : Nat} {S : CuS} (h : Cu w base c S) (hk : KM r w w') (hc : c < r) : Cu w' base c S := by
  obtain ⟨mb, hb, bl, h⟩ := h
  have nm : ∀ {k : Nat}, (∃ es cl, w.heap[k]? = some (.map es cl)) → w'.heap[k]? = w.heap[k]? := fun {k} hm => by
    obtain ⟨es, cl, hk'⟩ := hm
    rw [hk.maps _ _ _ hk', hk']
  exact ⟨mb, hb, bl, (hk.low c hc (lt_of_block h.blk)).trans h.blk, h.marks.same (nm h.marks.isMap), h.heard.same (nm h.heard.isMap), fun e he => (h.sets e he).same (nm (h.sets e he).isMap), h.nd, h.ne, h.nem, h.inj, h.ge⟩
theorem own_kc {w w' : World} {base c b n e s : Nat} {v : Value} {xs : List Value} (h : w.ownsRow b e s v n xs) (hk : KC base c w w') (hb : c < b) : w'.ownsRow b e s v n xs := by
  obtain ⟨hl, h | ⟨g, cap, cur, rfl, hbg, hg, r⟩⟩ := h
  · exact ⟨hl, .inl h⟩
  · exact ⟨hl, .inr ⟨g, cap, cur, rfl, hbg, hk.rows g _ _ _ (by omega) hg, r⟩⟩
theorem RAt.kc {w w' : World} {base c r : Nat} {R : CuS} {vL : Value} {hv : Int → Value} (h : RAt w r R vL hv) (hk : KC base c w w') (hc : c < r) : RAt w' r R vL hv :=
  ⟨hk.rows r _ _ _ (by omega) h.blk, own_kc h.row hk (by omega), fun e he => own_kc (h.sets e he) hk (by omega), h.ap, h.ap2, h.nd⟩
end Go.Proofs.Ytofengnbedebpaa

namespace Go.Proofs.Ytofengnbedebpaa
open Go.RowKit Go.Maps

def RIn (w : World) (r : Nat) (R : CuS) : Prop := ∃ vL hv, RAt w r R vL hv
theorem cset_len_some {S : CuS} {p : Int} {e : CEnt} (he : cfind S p = some e) (m : List UInt8) (h : List Int) : (cset S p m h).length = S.length := by
  have := cset_keys m h ⟨e, (cfind_some he).1, (cfind_some he).2⟩
  simpa using congrArg List.length this
theorem ecs_get_val (hv : Int → Value) (R : CuS) (k : Nat) (hk : k < R.length) : (ecs hv R).set (k * 3 + 1) (.string (bs (R.getD k e0).2.1)) = ecs hv R := by
  have h := ecs_get hv R k hk 1 (by omega)
  have hlen := ecs_len hv R
  refine List.ext_getElem? (fun i => ?_)
  rw [List.getElem?_set]
  split
  · rename_i hi
    subst hi
    rw [if_pos (by rw [hlen]; omega), h]; rfl
  · rfl
/-- An entry's row has been appended to, and its slice laid back. -/
theorem RAt.heard {w w' : World} {r : Nat} {R : CuS} {g cap : Nat} {hv : Int → Value} (h : RAt w r R (.slice (some ⟨g, 0, none⟩) R.length cap) hv) {k : Nat} (hk : k < R.length) {p : Int} (hp : (R.getD k e0).1 = p) {v' : Value} {l : List Int}
    (hg : w.grownBy w' (hv p).ownBlock) (hown : w'.ownsRow (r + 1) 3 1 v' l.length (l.map (Value.int .i64))) (hf : FreshOr w (hv p) v') (hrw : r + 1 ≤ w.heap.size) :
    RAt (w'.setCell ⟨g, k * 3 + 2, none⟩ v') r (cset R p (R.getD k e0).2.1 l) (.slice (some ⟨g, 0, none⟩) R.length cap) (fun q => if q = p then v' else hv q) := by
  have hmem := mem_get_e hk
  have hpo : (hv p).ownBlock = (hv (R.getD k e0).1).ownBlock := by rw [hp]
  have hsp := h.sets _ hmem
  have hex : ∃ e ∈ R, e.1 = p := ⟨_, hmem, hp⟩
  have hlen : (cset R p (R.getD k e0).2.1 l).length = R.length := by simpa using congrArg List.length (cset_keys (R.getD k e0).2.1 l hex)
  have hrow : w'.ownsRow (r + 1) 83 3 (.slice (some ⟨g, 0, none⟩) R.length cap) R.length (ecs hv R) := h.row.kept hg (by
    exact .inr (fun e => h.ap _ hmem g (by rw [← hpo]; exact e.symm) (by simp [Value.ownBlock])))
  have hst := (hrow.stored (k * 3 + 2) v').1
  have hgr : r < g := by
    have := (h.row.lt g (by simp [Value.ownBlock])).1; omega
  have hne : ∀ b, v'.ownBlock = some b → b ≠ g := fun b hb e => by
    rcases hf with hf | ⟨b', hb', hlt⟩
    · exact h.ap _ hmem b (by rw [← hpo, ← hf]; exact hb) (by simp [Value.ownBlock, e])
    · rw [hb'] at hb
      have : b' = b := by simpa using hb
      have := (h.row.lt g (by simp [Value.ownBlock])).2; omega
  have hcell : ∀ {b e s n : Nat} {v : Value} {xs : List Value}, w'.ownsRow b e s v n xs → (∀ x, v.ownBlock = some x → x ≠ g) → (w'.setCell ⟨g, k * 3 + 2, none⟩ v').ownsRow b e s v n xs := fun {b e s n v xs} ho hx => by
    obtain ⟨hl, h0 | ⟨g', cap', cur, rfl, hbg, hg', rest⟩⟩ := ho
    · exact ⟨hl, .inl h0⟩
    · exact ⟨hl, .inr ⟨g', cap', cur, rfl, hbg, (Below.heap_setCell _ _ _ _ (fun e => hx g' rfl (by subst e; rfl))).trans hg', rest⟩⟩
  refine ⟨?_, ?_, ?_, ?_, ?_, ?_⟩
  · refine (Below.heap_setCell _ _ _ _ (fun e => by have : r = g := e; omega)).trans ((hg.block r (by omega) (fun e => ?_)).trans h.blk)
    have := (hsp.lt r (by rw [← hpo]; exact e.symm)).1
    omega
  · rw [hlen, ecs_upd hv v' _ l R k p hk hp h.nd, ecs_get_val hv R k hk]
    exact hst
  · intro f hf'
    rcases cset_mem h.nd f hf' with rfl | ⟨hfm, hfp⟩
    · dsimp only
      rw [if_pos rfl]
      exact hcell hown (fun x hx => hne x hx)
    · rw [if_neg hfp]
      refine hcell ((h.sets f hfm).kept hg ?_) (fun x hx e => h.ap f hfm x hx (by simp [Value.ownBlock, e]))
      cases hb : (hv f.1).ownBlock with
      | none => exact .inl rfl
      | some b => exact .inr (fun e => h.ap2 _ hmem f hfm (by rw [hp]; exact fun e => hfp e.symm) b (by rw [← hpo]; exact e.symm) hb)
  · intro f hf' b hb e
    rcases cset_mem h.nd f hf' with rfl | ⟨hfm, hfp⟩
    · dsimp only at hb
      rw [if_pos rfl] at hb
      exact hne b hb (by have : g = b := by simpa [Value.ownBlock] using e
                         exact this.symm)
    · rw [if_neg hfp] at hb
      exact h.ap f hfm b hb e
  · intro f hf' f2 hf2 hne2 b hb e
    have key : ∀ x ∈ R, x.1 ≠ p → ∀ b, v'.ownBlock = some b → (hv x.1).ownBlock ≠ some b := fun x hx hxp b hb e => by
      rcases hf with hf | ⟨b', hb', hlt⟩
      · exact h.ap2 _ hmem x hx (by rw [hp]; exact fun e => hxp e.symm) b (by rw [← hpo, ← hf]; exact hb) e
      · rw [hb'] at hb
        have : b' = b := by simpa using hb
        have := ((h.sets x hx).lt b e).2
        omega
    rcases cset_mem h.nd f hf' with rfl | ⟨hfm, hfp⟩ <;> rcases cset_mem h.nd f2 hf2 with rfl | ⟨hfm2, hfp2⟩
    · exact hne2 rfl
    · dsimp only at hb e
      rw [if_pos rfl] at hb
      rw [if_neg hfp2] at e
      exact key f2 hfm2 hfp2 b hb e
    · dsimp only at hb e
      rw [if_neg hfp] at hb
      rw [if_pos rfl] at e
      exact key f hfm hfp b e hb
    · rw [if_neg hfp] at hb
      rw [if_neg hfp2] at e
      exact h.ap2 f hfm f2 hfm2 hne2 b hb e
  · rw [cset_keys _ _ hex]; exact h.nd
end Go.Proofs.Ytofengnbedebpaa

namespace Go.Proofs.Ytofengnbedebpaa
open Go.RowKit Go.Maps

set_option maxRecDepth 8000 in
set_option maxHeartbeats 2000000 in
theorem rheard_any (r : Nat) (R : CuS) (p node : Int) (m : List UInt8) (w : World) (h : RIn w r R) (hl : R.length ≤ 1000) (hT : ∀ e ∈ R, e.2.2.length ≤ 1000) :
    Calls Try.prog 21 #[.pointer (some ⟨r, 0, none⟩), .int .i64 p, .int .i64 node, .string (bs m)] w fun e w' => e = .returned (.bool (cheard R p node m).2) ∧ RIn w' r (cheard R p node m).1 ∧ KM r w w' := by
  obtain ⟨vL, hv, h⟩ := h
  have hf := hid (rfind_any r R vL hv p w h hl)
  have k0 : w.cell? ⟨r, 0, none⟩ = some vL := cell_of_block h.blk 0
  obtain ⟨a, cap, rfl⟩ := own_shape_d h.row
  obtain ⟨i0, hi, hz0, hz1, hz2⟩ := info_parts infoInt
  have H := hid h
  have hrw : r < w.heap.size := lt_of_block h.blk
  clear h
  unfold cheard
  rcases rix_cases R p with ⟨h1, h2⟩ | ⟨k, hk, h1, h2⟩
  · rw [h2] at hf
    rw [h1]
    clear h1 h2
    go_enter Try.func21, Try.ntmps21
    go_wp2_with (go_at_call 36; refine hf.out.mono ?_; rintro e w' ⟨rfl, rfl⟩)
    go_ret
    exact ⟨rfl, ⟨_, _, H.out⟩, KM.refl _ _⟩
  · rw [h2] at hf
    have hpk : (R.getD k e0).1 = p := (cfind_some h1).2
    rw [h1]
    obtain ⟨b, rfl, hb, c0, c1, c2⟩ := H.out.get hk
    have hmem := mem_get_e hk
    have hTl := hT _ hmem
    have hk' : (k : Int) < (R.length : Int) := by omega
    have hk0 : (0 : Int) ≤ (k : Int) := by omega
    have hk00 : ¬ (k : Int) < 0 := by omega
    dsimp only
    rw [hpk] at c2
    have hTi : Hid (Ints w (hv p) (R.getD k e0).2.2) := by
      have := Row.of_own (H.out.sets _ hmem)
      rw [hpk] at this
      exact this
    have hpure := hid (show Pure w (w.drew.alloc (.cells #[.int .i64 node] 3)) from (Below.refl _ _).drew.alloc (Nat.le_refl _) _)
    have hown0 : Hid ((w.drew.alloc (.cells #[.int .i64 node] 3)).ownsRow (r + 1) 3 1 (hv p) (R.getD k e0).2.2.length ((R.getD k e0).2.2.map (Value.int .i64))) := by
      have := (H.out.pure hpure.out).sets _ hmem
      rw [hpk] at this
      exact this
    have hrb : r < b := by have := (H.out.row.lt b (by simp [Value.ownBlock])).1; omega
    have hst : Hid (∀ (v' : Value) (w' : World), w'.ownsRow (r + 1) 3 1 v' ((R.getD k e0).2.2.length + 1) ((R.getD k e0).2.2.map (Value.int .i64) ++ [.int .i64 node]) → (w.drew.alloc (.cells #[.int .i64 node] 3)).grownBy w' (hv p).ownBlock → FreshOr (w.drew.alloc (.cells #[.int .i64 node] 3)) (hv p) v' →
        w'.cell? ⟨b, k * 3 + 2, none⟩ = some (hv p) ∧ w'.frozen? ⟨b, k * 3 + 2, none⟩ = false ∧ w'.cell? ⟨r, 0, none⟩ = some (.slice (some ⟨b, 0, none⟩) R.length cap) ∧ RIn (w'.setCell ⟨b, k * 3 + 2, none⟩ v') r (cset R p (R.getD k e0).2.1 ((R.getD k e0).2.2 ++ [node])) ∧ KM r w (w'.setCell ⟨b, k * 3 + 2, none⟩ v')) := fun v' w' h1 h2 h3 => by
      have HA := H.out.pure hpure.out
      obtain ⟨hl, ⟨e, h0⟩ | ⟨g, cap', cur, e, hbg, hg, q1, q2, q3, q4⟩⟩ := HA.row
      · omega
      injection e with e1 e2 e3
      injection e1 with e1
      injection e1 with e1
      subst e1
      have hgb : w'.heap[b]? = _ := (h2.block b (by have := hpure.out.size; omega) (fun e => HA.ap _ hmem b (by rw [hpk]; exact e.symm) (by simp [Value.ownBlock]))).trans hg
      have hc2 : w'.cell? ⟨b, k * 3 + 2, none⟩ = some (hv p) := by
        rw [cell_of_block hgb, ← cell_of_block hg]
        exact (hpure.out.cell (p := ⟨b, k * 3 + 2, none⟩) hb).trans c2
      refine ⟨hc2, free_of_block hgb _, ?_, ⟨_, _, HA.heard hk hpk h2 (by rw [List.length_append, List.map_append]; exact h1) h3 (by have := hpure.out.size; omega)⟩, ?_⟩
      · refine (World.cell?_of_block (h2.block r (by have := hpure.out.size; omega) (fun e => ?_))).trans ((hpure.out.cell (p := ⟨r, 0, none⟩) hrw).trans k0)
        have := ((HA.sets _ hmem).lt r (by rw [hpk]; exact e.symm)).1
        omega
      refine ((KM.pure hpure.out).grown h2 (fun g hg => ?_)).setCell (by omega) hgb _ _
      obtain ⟨hl', h0' | ⟨g', cap'', cur', e', hbg', hg', _⟩⟩ := hown0.out
      · rw [h0'.1] at hg; simp [Value.ownBlock] at hg
      · rw [e'] at hg
        have : g' = g := by simpa [Value.ownBlock] using hg
        subst this
        exact ⟨by omega, _, _, _, hg'⟩
    clear h1 h2 c0 hmem hT
    generalize (R.getD k e0).2.2 = T at *
    obtain ⟨ah, ch, hvh⟩ := hTi.out.shape
    generalize hv p = vh at *
    subst hvh
    have hh := hid (has_any _ T node w hTi.out)
    generalize (R.getD k e0).2.1 = M at *
    by_cases hm : M = m
    · subst hm
      have hq : ((bs M).toList == (bs M).toList) = true := by simp
      by_cases hn : node ∈ T
      · rw [decide_eq_true hn] at hh
        rw [if_neg (fun e => e.2 hn)]
        clear hn
        generalize bs M = Mb at *
        go_enter Try.func21, Try.ntmps21
        go_wp2_with (first | (go_at_call 36; refine hf.out.mono ?_; rintro e w' ⟨rfl, rfl⟩) | (go_at_call 38; refine hh.out.mono ?_; rintro e w' ⟨rfl, rfl⟩))
        go_ret
        exact ⟨rfl, ⟨_, _, H.out⟩, KM.refl _ _⟩
      · rw [decide_eq_false hn] at hh
        rw [if_pos ⟨rfl, hn⟩]
        clear hn
        generalize hX : cset R p M (T ++ [node]) = X at *
        generalize bs M = Mb at *
        go_enter Try.func21, Try.ntmps21
        go_wp2_with (first | (go_at_call 36; refine hf.out.mono ?_; rintro e w' ⟨rfl, rfl⟩) | (go_at_call 38; refine hh.out.mono ?_; rintro e w' ⟨rfl, rfl⟩))
        go_region_law (refine step_append_own2 rfl (.tmp 51) (.tmp 53) 23 rfl (r + 1) 3 i0 (.int .i64 0) 1 8 Try.underlying23 hi hz0 hz1 hz2 rfl (by decide) (.slice ah T.length ch) T.length (T.map (Value.int .i64)) (by simp [Act.eval, Act.put]) hown0.out ⟨w.heap.size, 0, none⟩ 1 1 [.int .i64 node] (by simp [Act.eval, Act.put]) rfl (hnews_one (w := w.drew)) (by intro u hu; simp at hu; subst hu; rfl) (by unfold maxLen; omega) (by omega) (by simp; omega) ?_; intro v' w' hown' hg' hf'; obtain ⟨s1, s2, s3, hL', hR'⟩ := hst.out v' w' hown' hg' hf'; obtain ⟨a9, c9, rfl⟩ := own_shape_d hown'; have HL11 := hid hL'; have HR11 := hid hR'; clear hown' hg' hf' hL' hR')
        all_goals
          go_wp2
          go_ret
          exact ⟨rfl, HL11.out, HR11.out⟩
    · rw [if_neg (fun e => hm e.1)]
      have hq : ((bs M).toList == (bs m).toList) = false := by rw [bs_beq]; simpa using hm
      generalize bs M = Mb at *
      generalize bs m = mb' at *
      go_enter Try.func21, Try.ntmps21
      go_wp2_with (go_at_call 36; refine hf.out.mono ?_; rintro e w' ⟨rfl, rfl⟩)
      go_ret
      exact ⟨rfl, ⟨_, _, H.out⟩, KM.refl _ _⟩
end Go.Proofs.Ytofengnbedebpaa

namespace Go.Proofs.Ytofengnbedebpaa
open Go.RowKit Go.Maps

theorem ecs_get_part (hv : Int → Value) (R : CuS) (k : Nat) (hk : k < R.length) : (ecs hv R).set (k * 3) (.int .i64 (R.getD k e0).1) = ecs hv R := by
  have h := ecs_get hv R k hk 0 (by omega)
  have hlen := ecs_len hv R
  refine List.ext_getElem? (fun i => ?_)
  rw [List.getElem?_set]
  split
  · rename_i hi
    subst hi
    rw [if_pos (by rw [hlen]; omega)]
    exact h.symm
  · rfl
/-- A kept part's entry has been stored anew. -/
theorem RAt.replaced {w : World} {r : Nat} {R : CuS} {g cap : Nat} {hv : Int → Value} (h : RAt w r R (.slice (some ⟨g, 0, none⟩) R.length cap) hv) {k : Nat} (hk : k < R.length) {p : Int} (hp : (R.getD k e0).1 = p) (m : List UInt8) :
    RAt (((w.setCell ⟨g, k * 3, none⟩ (.int .i64 p)).setCell ⟨g, k * 3 + 1, none⟩ (.string (bs m))).setCell ⟨g, k * 3 + 2, none⟩ (.slice none 0 0)) r (cset R p m []) (.slice (some ⟨g, 0, none⟩) R.length cap) (fun q => if q = p then .slice none 0 0 else hv q) := by
  have hmem := mem_get_e hk
  have hex : ∃ e ∈ R, e.1 = p := ⟨_, hmem, hp⟩
  have hlen : (cset R p m []).length = R.length := by simpa using congrArg List.length (cset_keys m [] hex)
  have s1 := (h.row.stored (k * 3) (.int .i64 p)).1
  have s2 := (s1.stored (k * 3 + 1) (.string (bs m))).1
  have s3 := (s2.stored (k * 3 + 2) (.slice none 0 0)).1
  have hgr : r < g := by
    have := (h.row.lt g (by simp [Value.ownBlock])).1; omega
  have hne : r ≠ g := by omega
  have hcell : ∀ {b e s n : Nat} {v : Value} {xs : List Value}, w.ownsRow b e s v n xs → (v.ownBlock ≠ some g) → (((w.setCell ⟨g, k * 3, none⟩ (.int .i64 p)).setCell ⟨g, k * 3 + 1, none⟩ (.string (bs m))).setCell ⟨g, k * 3 + 2, none⟩ (.slice none 0 0)).ownsRow b e s v n xs := fun {b e s n v xs} ho hx =>
    ownsRow_setCell_other (ownsRow_setCell_other (ownsRow_setCell_other ho hx _) hx _) hx _
  refine ⟨?_, ?_, ?_, ?_, ?_, ?_⟩
  · rw [Below.heap_setCell _ _ _ _ hne, Below.heap_setCell _ _ _ _ hne, Below.heap_setCell _ _ _ _ hne]
    exact h.blk
  · rw [hlen, ecs_upd hv (.slice none 0 0) m [] R k p hk hp h.nd]
    have : (ecs hv R).set (k * 3) (.int .i64 p) = ecs hv R := by rw [← hp]; exact ecs_get_part hv R k hk
    rw [this] at s3
    exact s3
  · intro f hf'
    rcases cset_mem h.nd f hf' with rfl | ⟨hfm, hfp⟩
    · dsimp only
      rw [if_pos rfl]
      exact World.ownsRow_nil _ _ _ _
    · rw [if_neg hfp]
      exact hcell (h.sets f hfm) (fun e => h.ap f hfm g e (by simp [Value.ownBlock]))
  · intro f hf' b hb e
    rcases cset_mem h.nd f hf' with rfl | ⟨hfm, hfp⟩
    · dsimp only at hb
      rw [if_pos rfl] at hb
      simp [Value.ownBlock] at hb
    · rw [if_neg hfp] at hb
      exact h.ap f hfm b hb e
  · intro f hf' f2 hf2 hne2 b hb e
    rcases cset_mem h.nd f hf' with rfl | ⟨hfm, hfp⟩ <;> rcases cset_mem h.nd f2 hf2 with rfl | ⟨hfm2, hfp2⟩
    · exact hne2 rfl
    · dsimp only at hb
      rw [if_pos rfl] at hb
      simp [Value.ownBlock] at hb
    · dsimp only at e
      rw [if_pos rfl] at e
      simp [Value.ownBlock] at e
    · rw [if_neg hfp] at hb
      rw [if_neg hfp2] at e
      exact h.ap2 f hfm f2 hfm2 hne2 b hb e
  · rw [cset_keys _ _ hex]; exact h.nd

theorem ecs_drop (hv : Int → Value) : ∀ (R : CuS) (k : Nat), (ecs hv R).drop (k * 3) = ecs hv (R.drop k)
  | R, 0 => by simp
  | [], k + 1 => by simp [ecs]
  | e :: R, k + 1 => by
    have h : ecs hv (e :: R) = ec hv e ++ ecs hv R := rfl
    rw [h, show (k + 1) * 3 = 3 + k * 3 by omega, ← List.drop_drop, show List.drop 3 (ec hv e ++ ecs hv R) = ecs hv R from rfl, ecs_drop hv R k]; rfl
theorem ecs_take (hv : Int → Value) : ∀ (R : CuS) (k : Nat), (ecs hv R).take (k * 3) = ecs hv (R.take k)
  | R, 0 => by simp [ecs]
  | [], k + 1 => by simp [ecs]
  | e :: R, k + 1 => by
    have h : ecs hv (e :: R) = ec hv e ++ ecs hv R := rfl
    have h2 : ecs hv ((e :: R).take (k + 1)) = ec hv e ++ ecs hv (R.take k) := rfl
    rw [h, h2, show (k + 1) * 3 = 3 + k * 3 by omega, List.take_add, show List.drop 3 (ec hv e ++ ecs hv R) = ecs hv R from rfl, show List.take 3 (ec hv e ++ ecs hv R) = ec hv e from rfl, ecs_take hv R k]
/-- A new part's entry has been laid among the others, in a new row. -/
theorem RAt.laid {w w' : World} {r : Nat} {R : CuS} {vL v' : Value} {hv : Int → Value} (h : RAt w r R vL hv) {k : Nat} (hk : k ≤ R.length) {p : Int} (hp : cfind R p = none) (m : List UInt8)
    (hpu : Pure w w') (hrow : w'.ownsRow w.heap.size 83 3 v' (R.length + 1) (ecs hv (R.take k) ++ [.int .i64 p, .string (bs m), .slice none 0 0] ++ ecs hv (R.drop k))) :
    RAt (w'.setCell ⟨r, 0, none⟩ v') r (R.take k ++ (p, m, []) :: R.drop k) v' (fun q => if q = p then .slice none 0 0 else hv q) := by
  have hrw : r < w.heap.size := lt_of_block h.blk
  have H' := h.pure hpu
  have hnp : ∀ e ∈ R, e.1 ≠ p := cfind_none hp
  have hmem : ∀ e ∈ R.take k ++ (p, m, []) :: R.drop k, e = (p, m, []) ∨ (e ∈ R ∧ e.1 ≠ p) := fun e he => by
    rw [List.mem_append, List.mem_cons] at he
    rcases he with he | rfl | he
    · exact .inr ⟨List.mem_of_mem_take he, hnp _ (List.mem_of_mem_take he)⟩
    · exact .inl rfl
    · exact .inr ⟨List.mem_of_mem_drop he, hnp _ (List.mem_of_mem_drop he)⟩
  have e1 : ecs (fun q => if q = p then .slice none 0 0 else hv q) (R.take k ++ (p, m, []) :: R.drop k) = ecs hv (R.take k) ++ [.int .i64 p, .string (bs m), .slice none 0 0] ++ ecs hv (R.drop k) := by
    have h3 : ∀ T : CuS, (∀ e ∈ T, e ∈ R) → ecs (fun q => if q = p then .slice none 0 0 else hv q) T = ecs hv T := fun T hT => ecs_congr (fun e he => by simp [hnp e (hT e he)])
    have h4 : ecs (fun q => if q = p then .slice none 0 0 else hv q) ((p, m, []) :: R.drop k) = [.int .i64 p, .string (bs m), .slice none 0 0] ++ ecs (fun q => if q = p then .slice none 0 0 else hv q) (R.drop k) := by
      have : ec (fun q => if q = p then .slice none 0 0 else hv q) (p, m, []) = [.int .i64 p, .string (bs m), .slice none 0 0] := by simp [ec]
      rw [← this]; rfl
    rw [ecs_append, h4, h3 _ (fun e he => List.mem_of_mem_take he), h3 _ (fun e he => List.mem_of_mem_drop he), List.append_assoc]
  have hlen : (R.take k ++ (p, m, []) :: R.drop k).length = R.length + 1 := by simp; omega
  have hlo : ∀ f ∈ R, ∀ b, (hv f.1).ownBlock = some b → r < b ∧ b < w.heap.size := fun f hf b hb => by
    have := (h.sets f hf).lt b hb; omega
  refine ⟨?_, ?_, ?_, ?_, ?_, ?_⟩
  · have := heap_setCell_same w' r 0 _ _ v' H'.blk
    simpa using this
  · rw [hlen, e1]
    exact own_mono (ownsRow_setCell_below hrow (a := ⟨r, 0, none⟩) hrw v') (by omega)
  · intro f hf'
    rcases hmem f hf' with rfl | ⟨hfm, hfp⟩
    · dsimp only
      rw [if_pos rfl]
      exact World.ownsRow_nil _ _ _ _
    · rw [if_neg hfp]
      exact ownsRow_setCell_other (H'.sets f hfm) (fun e => by have := (hlo f hfm r e).1; omega) _
  · intro f hf' b hb e
    rcases hmem f hf' with rfl | ⟨hfm, hfp⟩
    · dsimp only at hb
      rw [if_pos rfl] at hb
      simp [Value.ownBlock] at hb
    · rw [if_neg hfp] at hb
      have h1 := (hlo f hfm b hb).2
      have h2 := (hrow.lt b e).1
      omega
  · intro f hf' f2 hf2 hne2 b hb e
    rcases hmem f hf' with rfl | ⟨hfm, hfp⟩ <;> rcases hmem f2 hf2 with rfl | ⟨hfm2, hfp2⟩
    · exact hne2 rfl
    · dsimp only at hb
      rw [if_pos rfl] at hb
      simp [Value.ownBlock] at hb
    · dsimp only at e
      rw [if_pos rfl] at e
      simp [Value.ownBlock] at e
    · rw [if_neg hfp] at hb
      rw [if_neg hfp2] at e
      exact h.ap2 f hfm f2 hfm2 hne2 b hb e
  · have hnd := h.nd
    rw [← List.take_append_drop k R, List.map_append] at hnd
    rw [List.map_append, List.map_cons]
    refine (List.perm_middle.nodup_iff).2 (List.nodup_cons.2 ⟨?_, hnd⟩)
    rw [← List.map_append, List.take_append_drop]
    intro hx
    obtain ⟨f, hf, hfe⟩ := List.mem_map.1 hx
    exact hnp f hf hfe
end Go.Proofs.Ytofengnbedebpaa

namespace Go.Proofs.Ytofengnbedebpaa
open Go.RowKit Go.Maps

theorem infoKept : (Try.prog.info? 83).map (fun i => (i.zero, i.size, i.bytes)) = some (some (.agg #[.int .i64 0, .string ByteArray.empty, .slice none 0 0]), 3, 48) := by kernel_rfl
def RKeep (R : CuS) (p : Int) (m : List UInt8) (emp : Bool) (R' : CuS) : Prop :=
  match cfind R p with
  | some _ => R' = (ckeep R p m emp).1
  | none => if emp then R' = R else ∃ k, k ≤ R.length ∧ (∀ e ∈ R.drop k, p < e.1) ∧ (k = 0 ∨ (R.getD (k - 1) e0).1 ≤ p) ∧ R' = R.take k ++ (p, m, []) :: R.drop k
def RKR (R : CuS) (p : Int) (m : List UInt8) (emp : Bool) (b : Bool) (R' : CuS) : Prop := b = (ckeep R p m emp).2 ∧ RKeep R p m emp R'
theorem rkr_same {R : CuS} {p : Int} {m : List UInt8} {emp : Bool} {e : CEnt} (h : cfind R p = some e) (hm : e.2.1 = m) : RKR R p m emp false R := by
  unfold RKR RKeep ckeep; rw [h]; dsimp only; rw [if_pos hm]; exact ⟨rfl, rfl⟩
theorem rkr_new {R : CuS} {p : Int} {m : List UInt8} {emp : Bool} {e : CEnt} (h : cfind R p = some e) (hm : e.2.1 ≠ m) : RKR R p m emp true (cset R p m []) := by
  unfold RKR RKeep ckeep; rw [h]; dsimp only; rw [if_neg hm]; exact ⟨rfl, rfl⟩
theorem rkr_empty {R : CuS} {p : Int} {m : List UInt8} (h : cfind R p = none) : RKR R p m true false R := by
  unfold RKR RKeep ckeep; rw [h]; exact ⟨rfl, rfl⟩
theorem rkr_laid {R : CuS} {p : Int} {m : List UInt8} (h : cfind R p = none) {k : Nat} (hk : k ≤ R.length) (h1 : ∀ e ∈ R.drop k, p < e.1) (h2 : k = 0 ∨ (R.getD (k - 1) e0).1 ≤ p) : RKR R p m false true (R.take k ++ (p, m, []) :: R.drop k) := by
  unfold RKR RKeep ckeep; rw [h]; exact ⟨rfl, k, hk, h1, h2, rfl⟩
theorem one_ecs (hv : Int → Value) (R : CuS) : ∀ u ∈ ecs hv R, (∀ e ∈ R, (hv e.1).oneCell' = true) → u.oneCell' = true := by
  intro u hu h
  obtain ⟨e, he, hu⟩ := List.mem_flatMap.1 hu
  simp only [ec, List.mem_cons, List.not_mem_nil, or_false] at hu
  rcases hu with rfl | rfl | rfl
  · rfl
  · rfl
  · exact h e he
theorem sizeKept (W : World) : (sizeOf 83).run Try.prog W = .ok 3 W := by kernel_rfl
theorem row_pre_a {w : World} {a : Option Addr} {n cap size : Nat} {xs : List Value} (h : Row w (.slice a n cap) n size xs) {k : Nat} (hk : k ≤ n) : Row w (.slice a k cap) k size (xs.take (k * size)) := by
  obtain ⟨hl, a', cap', e, h1, h2, hc⟩ := h
  cases e
  refine ⟨by rw [List.length_take, hl]; exact Nat.min_eq_left (Nat.mul_le_mul_right _ hk), a, cap, rfl, by omega, h2, ?_⟩
  rcases hc with h0 | ⟨b, off, e, hb, hcell⟩
  · exact .inl h0
  · exact .inr ⟨b, off, e, hb, fun i hi => by
      rw [hcell i (Nat.lt_of_lt_of_le hi (Nat.mul_le_mul_right _ hk)), List.getElem?_take, if_pos hi]⟩
theorem kept_lit (w : World) (p : Int) (m : List UInt8) : Row (w.alloc (.cells #[.int .i64 p, .string (bs m), .slice none 0 0] 83)) (.slice (some ⟨w.heap.size, 0, none⟩) 1 1) 1 3 [.int .i64 p, .string (bs m), .slice none 0 0] := by
  refine ⟨rfl, _, _, rfl, Nat.le_refl _, by unfold maxLen; omega, .inr ⟨_, _, rfl, by simp, fun i hi => ?_⟩⟩
  rw [Nat.zero_add, World.cell?_alloc_new]
  simp
def RKP (r : Nat) (R : CuS) (p : Int) (m : List UInt8) (emp : Bool) (w : World) (e : Ending) (w' : World) : Prop := ∃ b R', e = .returned (.bool b) ∧ RKR R p m emp b R' ∧ RIn w' r R' ∧ KM r w w'
theorem rkp_mk {r : Nat} {R R' : CuS} {p : Int} {m : List UInt8} {emp b : Bool} {w w' : World} (h1 : RKR R p m emp b R') (h2 : RIn w' r R') (h3 : KM r w w') : RKP r R p m emp w (.returned (.bool b)) w' := ⟨b, R', rfl, h1, h2, h3⟩
theorem drop_pred (R : CuS) (k : Nat) (hk : k < R.length) : R.drop k = R.getD k e0 :: R.drop (k + 1) := by
  rw [List.drop_eq_getElem_cons hk]; simp [List.getD, hk]

set_option maxRecDepth 8000 in
set_option maxHeartbeats 4000000 in
theorem rkeep_any (r : Nat) (R : CuS) (p : Int) (v : Value) (g : Bag) (w : World) (h : RIn w r R) (hl : R.length ≤ 1000) (hat : BagAt w v g) (hsm : SmallG g) :
    Calls Try.prog 20 #[.pointer (some ⟨r, 0, none⟩), .int .i64 p, v] w fun e w' => RKP r R p (bagB g) (decide (g = g0)) w e w' := by
  obtain ⟨vL, hv, h⟩ := h
  have hrw : r < w.heap.size := lt_of_block h.blk
  have hbytes0 := fun W (hW : Pure w W) => rbbytes_any v g W (hat.pure hW) hsm
  have hsame0 := fun W (hW : Pure w W) => rbsame_any v (.agg #[.slice none 0 0, .slice none 0 0, .slice none 0 0]) g g0 W (hat.pure hW) (bag0 W)
  obtain ⟨v0, v1, v2, rfl, h0, h1, h2⟩ := hat
  obtain ⟨a0, c0, rfl⟩ := h0.shape
  obtain ⟨a1, c1, rfl⟩ := h1.shape
  obtain ⟨a2, c2, rfl⟩ := h2.shape
  obtain ⟨i0, hi, hz0, hz1, hz2⟩ := info_parts infoKept
  obtain ⟨wz, hwz⟩ : ∃ wz, wz = w.alloc (.cells #[.slice a0 g.1.length c0, .slice a1 g.2.1.length c1, .slice a2 g.2.2.length c2] 31) := ⟨_, rfl⟩
  have Hwz := hid (show Pure w wz from by rw [hwz]; exact (Below.refl _ _).alloc (Nat.le_refl _) _)
  have bx : wz.heap[w.heap.size]? = some (.cells #[.slice a0 g.1.length c0, .slice a1 g.2.1.length c1, .slice a2 g.2.2.length c2] 31 (0, 0)) := by rw [hwz]; exact block_alloc_new _ _
  have hbox : Hid (∀ W, Pure wz W → W.cell? ⟨w.heap.size, 0, none⟩ = some (.slice a0 g.1.length c0) ∧ W.cell? ⟨w.heap.size, 1, none⟩ = some (.slice a1 g.2.1.length c1) ∧ W.cell? ⟨w.heap.size, 2, none⟩ = some (.slice a2 g.2.2.length c2)) := fun W hW => by
    have e0 := (hW.block _ (lt_of_block bx)).trans bx
    exact ⟨cell_of_block e0 0, cell_of_block e0 1, cell_of_block e0 2⟩
  have hbytes := hid (fun W (hW : Pure wz W) => hbytes0 W (Hwz.out.then_ hW))
  have hsame := hid (fun W (hW : Pure wz W) => hsame0 W (Hwz.out.then_ hW))
  obtain ⟨a, cap, rfl⟩ := own_shape_d h.row
  have H := hid h
  have hfind := hid (fun W (hW : Pure w W) => rfind_any r R _ hv p W (H.out.pure hW) hl)
  clear hbytes0 hsame0 bx h0 h1 h2 h
  obtain ⟨f0, f1, f2⟩ := hbox.out wz (Below.refl _ _)
  have Hz := hid hwz
  rw [hwz] at f0 f1 f2
  clear hwz
  generalize bagB g = m at *
  generalize hE : decide (g = g0) = E at *
  clear hE
  have hix := hid (rix_cases R p)
  generalize rix R p = ix at *
  go_enter Try.func20, Try.ntmps20
  go_wp2_with fail
  rw [← Hz.out]
  refine (hbytes.out wz (Below.refl _ _)).mono ?_
  rintro e w1 ⟨rfl, hp1⟩
  have Hp1 := hid hp1
  clear f0 f1 f2 hp1
  obtain ⟨f0, f1, f2⟩ := hbox.out w1 Hp1.out
  go_wp2_with fail
  refine (hfind.out w1 (Hwz.out.then_ Hp1.out)).mono ?_
  rintro e w1' ⟨rfl, rfl⟩
  go_wp2_with fail
  refine (hsame.out w1 Hp1.out).mono ?_
  rintro e w2 ⟨rfl, hp2⟩
  have Hp2 := hid (Hwz.out.then_ (Hp1.out.then_ hp2))
  clear f0 f1 f2 hp2 hbytes hsame hfind hbox
  have H2 := hid (H.out.pure Hp2.out)
  have k0 : w2.cell? ⟨r, 0, none⟩ = some (.slice a R.length cap) := cell_of_block H2.out.blk 0
  have kz0 : w2.frozen? ⟨r, 0, none⟩ = false := free_of_block H2.out.blk 0
  rcases hix.out with ⟨h1, h2⟩ | ⟨k, hk, h1, h2⟩
  · subst h2
    have Hn := hid h1
    clear h1
    cases E with
    | true =>
      go_wp2
      go_ret
      exact rkp_mk (rkr_empty Hn.out) ⟨_, _, H2.out⟩ (KM.pure Hp2.out)
    | false =>
      have hfin : Hid (∀ k, k ≤ R.length → (∀ e ∈ R.drop k, p < e.1) → (k = 0 ∨ (R.getD (k - 1) e0).1 ≤ p) → ∀ (v' : Value) (w' : World), Pure w2 w' → w'.ownsRow w2.heap.size 83 3 v' (k + 1 + (R.length - k)) (ecs hv (R.take k) ++ [.int .i64 p, .string (bs m), .slice none 0 0] ++ ecs hv (R.drop k)) →
          RKP r R p m false w (.returned (.bool true)) (w'.setCell ⟨r, 0, none⟩ v')) := fun k hk h1 h2 v' w' hp ho => by
        rw [show k + 1 + (R.length - k) = R.length + 1 by omega] at ho
        exact rkp_mk (rkr_laid Hn.out hk h1 h2) ⟨_, _, H2.out.laid hk Hn.out m hp ho⟩ ((KM.pure (Hp2.out.then_ hp)).setCell (Nat.le_refl _) (H2.out.pure hp).blk _ _)
      have Hone : Hid (∀ T : CuS, (∀ e ∈ T, e ∈ R) → ∀ u ∈ ecs hv T, u.oneCell' = true) := fun T hT u hu => one_ecs hv T u hu (fun e he => by
        obtain ⟨a9, c9, e9⟩ := own_shape_d (H2.out.sets e (hT e he))
        rw [e9]; rfl)
      have Hpl : Hid (a = none ∨ ∃ b o, a = some ⟨b, o, none⟩) := by
        obtain ⟨_, ⟨e, _⟩ | ⟨g', cap', cur, e, _⟩⟩ := H2.out.row
        · injection e with e1 e2 e3
          exact .inl e1
        · injection e with e1 e2 e3
          exact .inr ⟨_, _, e1⟩
      go_wp2
      go_loop [10] (fun i => ∃ k : Nat, k ≤ R.length ∧ i = .int .i64 k ∧ ∀ e ∈ R.drop k, p < e.1) (fun i => (RowKit.intOf i).toNat)
      case atStart => exact ⟨R.length, Nat.le_refl _, rfl, by simp⟩
      case round =>
        obtain ⟨k, hk, rfl, hgt⟩ := hrel
        by_cases hpos : 0 < k
        · have hpos' : (0 : Int) < (k : Int) := by omega
          obtain ⟨b, rfl, hb, q0, -, -⟩ := H2.out.get (show k - 1 < R.length by omega)
          have hk1 : ((k : Int) - 1) = ((k - 1 : Nat) : Int) := by omega
          have hk2 : ((k - 1 : Nat) : Int) < (R.length : Int) := by omega
          have hk3 : (0 : Int) ≤ ((k - 1 : Nat) : Int) := by omega
          have Hd := hid (show R.drop (k - 1) = R.getD (k - 1) e0 :: R.drop k by rw [drop_pred R (k - 1) (by omega), show k - 1 + 1 = k by omega])
          have Hgt := hid hgt
          clear hgt
          generalize hz : (R.getD (k - 1) e0).1 = z at *
          have Hz' := hid hz
          clear hz
          by_cases hc : p < z
          · have hc' : z > p := hc
            go_wp2
            go_round
            case rel => exact ⟨k - 1, by omega, by go_num, fun e he => by
              rw [Hd.out, List.mem_cons] at he
              rcases he with rfl | he
              · rw [Hz'.out]; exact hc
              · exact Hgt.out e he⟩
            case measure => simp [RowKit.intOf]; omega
          · have hc' : ¬ z > p := hc
            have hkc : k ≤ cap := by
              obtain ⟨_, a8, cap8, e8, h8, _⟩ := Row.of_own H2.out.row
              cases e8
              omega
            have hij : k ≤ R.length := hk
            have Hle := hid (show k = 0 ∨ (R.getD (k - 1) e0).1 ≤ p from .inr (by rw [Hz'.out]; omega))
            have Hi1 : Hid (∀ W, Pure w2 W → Row W (.slice (some ⟨b, 0, none⟩) k cap) k 3 (ecs hv (R.take k))) := fun W hW => by rw [← ecs_take]; exact row_pre_a (Row.of_own (H2.out.pure hW).row) hk
            obtain ⟨v2, hv2, hi2⟩ := slice_suf_row Try.underlying52 (Row.of_own H2.out.row) hij (.inr ⟨_, _, rfl⟩) sizeKept
            obtain ⟨aS, cS, rfl⟩ := (hi2 w2 (Row.of_own H2.out.row)).shape
            have Hi2 : Hid (∀ W, Pure w2 W → Row W (.slice aS (R.length - k) cS) (R.length - k) 3 (ecs hv (R.drop k))) := fun W hW => by rw [← ecs_drop]; exact hi2 W (Row.of_own (H2.out.pure hW).row)
            obtain ⟨V, hV⟩ : ∃ V, V = Value.slice (some ⟨b, 0, none⟩) R.length cap := ⟨_, rfl⟩
            rw [← hV] at hv2
            have hk0 := hid (fun W (hW : Pure w2 W) => show W.cell? ⟨r, 0, none⟩ = some V from by rw [hV]; exact (cell_of_block (H2.out.pure hW).blk 0))
            have hkz := hid (fun W (hW : Pure w2 W) => free_of_block (H2.out.pure hW).blk 0)
            clear hV hi2
            obtain ⟨mb, hmb⟩ : ∃ mb, mb = bs m := ⟨_, rfl⟩
            go_wp2_with (at_builtin; go_loud (refine wpList_append_rows2 rfl _ _ 52 rfl w2.heap.size 83 i0 (.agg #[.int .i64 0, .string ByteArray.empty, .slice none 0 0]) 3 48 Try.underlying52 hi hz0 hz1 hz2 rfl (by decide) (by decide) (.slice none 0 0) 0 [] rfl (World.ownsRow_nil _ _ _ _) _ k (ecs hv (R.take k)) rfl (Hi1.out _ (Below.refl _ _)) (Hone.out _ (fun e he => List.mem_of_mem_take he)) (by omega) (Nat.le_refl _) ?_))
            intro v3 w3 hown3 hg3 _
            have Hown3 := hid (show w3.ownsRow w2.heap.size 83 3 v3 k (ecs hv (R.take k)) by simpa using hown3)
            have Hg3 := hid (show Pure w2 w3 from (Below.refl _ _).grown hg3 (Nat.le_refl _) (fun k hk => by simp [Value.ownBlock] at hk))
            obtain ⟨a4, c4, rfl⟩ := own_shape_d Hown3.out
            have b1 : w2.heap.size ≤ (w3.alloc (.cells #[.int .i64 p, .string (bs m), .slice none 0 0] 83)).heap.size := by have := Hg3.out.size; simp; omega
            clear hown3 hg3 k0 kz0
            go_wp2_with (at_builtin; go_loud (refine wpList_append_rows2 rfl _ _ 52 rfl w2.heap.size 83 i0 (.agg #[.int .i64 0, .string ByteArray.empty, .slice none 0 0]) 3 48 Try.underlying52 hi hz0 hz1 hz2 rfl (by decide) (by decide) _ k (ecs hv (R.take k)) rfl (Hown3.out.alloc _) _ 1 [.int .i64 p, .string (bs m), .slice none 0 0] rfl (kept_lit w3 p m) (by intro u hu; simp at hu; rcases hu with rfl | rfl | rfl <;> rfl) (by omega) b1 ?_))
            intro v4 w4 hown4 hg4 _
            have Hown4 := hid hown4
            have Hg4 := hid (show Pure w2 w4 from (Hg3.out.alloc Hg3.out.size _).grown hg4 (by have := Hg3.out.size; simp; omega) (fun k hk => (Hown3.out.lt k hk).1))
            obtain ⟨a5, c5, rfl⟩ := own_shape_d Hown4.out
            clear hown4 hg4 b1
            have k4 := hk0.out _ Hg4.out
            have kz4 := hkz.out _ Hg4.out
            go_wp2_with (at_builtin; go_loud (refine wpList_append_rows2 rfl _ _ 52 rfl w2.heap.size 83 i0 (.agg #[.int .i64 0, .string ByteArray.empty, .slice none 0 0]) 3 48 Try.underlying52 hi hz0 hz1 hz2 rfl (by decide) (by decide) (.slice a5 (k + 1) c5) (k + 1) (ecs hv (R.take k) ++ [.int .i64 p, .string (bs m), .slice none 0 0]) (by rfl) Hown4.out (.slice aS (R.length - k) cS) (R.length - k) (ecs hv (R.drop k)) rfl (Hi2.out _ Hg4.out) (Hone.out _ (fun e he => List.mem_of_mem_drop he)) (by omega) Hg4.out.size ?_))
            intro v5 w5 hown5 hg5 _
            have Hg5 := hid (Hg4.out.grown hg5 Hg4.out.size (fun k hk => (Hown4.out.lt k hk).1))
            have k5 := hk0.out _ Hg5.out
            have kz5 := hkz.out _ Hg5.out
            have Hfin := hid (hfin.out k hk (by first | exact hgt | exact Hgt.out) Hle.out v5 w5 Hg5.out (by rw [List.append_assoc]; exact hown5))
            obtain ⟨a6, c6, rfl⟩ := own_shape_d hown5
            clear hown5 hg5 k4 kz4
            go_wp2
            go_ret
            exact Hfin.out
        · obtain rfl : k = 0 := by omega
          have hij : 0 ≤ R.length := hk
          have Hle := hid (show 0 = 0 ∨ (R.getD (0 - 1) e0).1 ≤ p from .inl rfl)
          have Hi1 : Hid (∀ W, Pure w2 W → Row W (.slice a 0 cap) 0 3 (ecs hv (R.take 0))) := fun W hW => by rw [← ecs_take]; exact row_pre_a (Row.of_own (H2.out.pure hW).row) hk
          obtain ⟨v2, hv2, hi2⟩ := slice_suf_row Try.underlying52 (Row.of_own H2.out.row) hij Hpl.out sizeKept
          obtain ⟨aS, cS, rfl⟩ := (hi2 w2 (Row.of_own H2.out.row)).shape
          have Hi2 : Hid (∀ W, Pure w2 W → Row W (.slice aS (R.length - 0) cS) (R.length - 0) 3 (ecs hv (R.drop 0))) := fun W hW => by rw [← ecs_drop]; exact hi2 W (Row.of_own (H2.out.pure hW).row)
          obtain ⟨V, hV⟩ : ∃ V, V = Value.slice a R.length cap := ⟨_, rfl⟩
          rw [← hV] at hv2
          have hk0 := hid (fun W (hW : Pure w2 W) => show W.cell? ⟨r, 0, none⟩ = some V from by rw [hV]; exact (cell_of_block (H2.out.pure hW).blk 0))
          have hkz := hid (fun W (hW : Pure w2 W) => free_of_block (H2.out.pure hW).blk 0)
          clear hV hi2
          have hv2 : ∀ W, (Instr.slice 52 V (some (.int .i64 (0))) none none).run Try.prog W = .ok (.slice aS (R.length - 0) cS) W := hv2
          obtain ⟨mb, hmb⟩ : ∃ mb, mb = bs m := ⟨_, rfl⟩
          go_wp2_with (at_builtin; go_loud (refine wpList_append_rows2 rfl _ _ 52 rfl w2.heap.size 83 i0 (.agg #[.int .i64 0, .string ByteArray.empty, .slice none 0 0]) 3 48 Try.underlying52 hi hz0 hz1 hz2 rfl (by decide) (by decide) (.slice none 0 0) 0 [] rfl (World.ownsRow_nil _ _ _ _) _ 0 (ecs hv (R.take 0)) rfl (Hi1.out _ (Below.refl _ _)) (Hone.out _ (fun e he => List.mem_of_mem_take he)) (by omega) (Nat.le_refl _) ?_))
          intro v3 w3 hown3 hg3 _
          have Hown3 := hid (show w3.ownsRow w2.heap.size 83 3 v3 0 (ecs hv (R.take 0)) by simpa using hown3)
          have Hg3 := hid (show Pure w2 w3 from (Below.refl _ _).grown hg3 (Nat.le_refl _) (fun k hk => by simp [Value.ownBlock] at hk))
          obtain ⟨a4, c4, rfl⟩ := own_shape_d Hown3.out
          have b1 : w2.heap.size ≤ (w3.alloc (.cells #[.int .i64 p, .string (bs m), .slice none 0 0] 83)).heap.size := by have := Hg3.out.size; simp; omega
          clear hown3 hg3 k0 kz0
          go_wp2_with (at_builtin; go_loud (refine wpList_append_rows2 rfl _ _ 52 rfl w2.heap.size 83 i0 (.agg #[.int .i64 0, .string ByteArray.empty, .slice none 0 0]) 3 48 Try.underlying52 hi hz0 hz1 hz2 rfl (by decide) (by decide) _ 0 (ecs hv (R.take 0)) rfl (Hown3.out.alloc _) _ 1 [.int .i64 p, .string (bs m), .slice none 0 0] rfl (kept_lit w3 p m) (by intro u hu; simp at hu; rcases hu with rfl | rfl | rfl <;> rfl) (by omega) b1 ?_))
          intro v4 w4 hown4 hg4 _
          have Hown4 := hid hown4
          have Hg4 := hid (show Pure w2 w4 from (Hg3.out.alloc Hg3.out.size _).grown hg4 (by have := Hg3.out.size; simp; omega) (fun k hk => (Hown3.out.lt k hk).1))
          obtain ⟨a5, c5, rfl⟩ := own_shape_d Hown4.out
          clear hown4 hg4 b1
          have k4 := hk0.out _ Hg4.out
          have kz4 := hkz.out _ Hg4.out
          go_wp2_with (at_builtin; go_loud (refine wpList_append_rows2 rfl _ _ 52 rfl w2.heap.size 83 i0 (.agg #[.int .i64 0, .string ByteArray.empty, .slice none 0 0]) 3 48 Try.underlying52 hi hz0 hz1 hz2 rfl (by decide) (by decide) (.slice a5 (0 + 1) c5) (0 + 1) (ecs hv (R.take 0) ++ [.int .i64 p, .string (bs m), .slice none 0 0]) (by rfl) Hown4.out (.slice aS (R.length - 0) cS) (R.length - 0) (ecs hv (R.drop 0)) rfl (Hi2.out _ Hg4.out) (Hone.out _ (fun e he => List.mem_of_mem_drop he)) (by omega) Hg4.out.size ?_))
          intro v5 w5 hown5 hg5 _
          have Hg5 := hid (Hg4.out.grown hg5 Hg4.out.size (fun k hk => (Hown4.out.lt k hk).1))
          have k5 := hk0.out _ Hg5.out
          have kz5 := hkz.out _ Hg5.out
          have Hfin := hid (hfin.out 0 hk (by first | exact hgt | exact Hgt.out) (.inl rfl) v5 w5 Hg5.out (by rw [List.append_assoc]; exact hown5))
          obtain ⟨a6, c6, rfl⟩ := own_shape_d hown5
          clear hown5 hg5 k4 kz4
          go_wp2
          go_ret
          exact Hfin.out
  · subst h2
    have Hn := hid h1
    have hpk : (R.getD k e0).1 = p := (cfind_some h1).2
    obtain ⟨b, rfl, hb, q0, q1, q2⟩ := H2.out.get hk
    have hk' : (k : Int) < (R.length : Int) := by omega
    have hk0 : (0 : Int) ≤ (k : Int) := by omega
    have hk00 : ¬ (k : Int) < 0 := by omega
    clear h1
    by_cases hm : (R.getD k e0).2.1 = m
    · have hq : ((bs (R.getD k e0).2.1).toList == (bs m).toList) = true := by rw [bs_beq]; simpa using hm
      have Hm := hid hm
      clear hm hpk
      generalize hM1 : bs (R.getD k e0).2.1 = M1 at *
      generalize hM2 : bs m = M2 at *
      clear hM1 hM2
      go_wp2
      go_ret
      exact rkp_mk (rkr_same Hn.out Hm.out) ⟨_, _, H2.out⟩ (KM.pure Hp2.out)
    · have hq : ((bs (R.getD k e0).2.1).toList == (bs m).toList) = false := by rw [bs_beq]; simpa using hm
      have Hm := hid hm
      have HR := hid (H2.out.replaced hk hpk m)
      have hblk : ∃ cs, w2.heap[b]? = some (.cells cs 83 (0, 0)) := by
        obtain ⟨_, ⟨e, _⟩ | ⟨g', cap', cur, e, _, hg, _⟩⟩ := H2.out.row
        · cases e
        · injection e with e1 e2 e3
          injection e1 with e1
          injection e1 with e1
          subst e1
          exact ⟨_, hg⟩
      obtain ⟨cs, hblk⟩ := hblk
      have hrb : r < b := by have := (H2.out.row.lt b (by simp [Value.ownBlock])).1; omega
      have z0 : w2.frozen? ⟨b, k * 3, none⟩ = false := free_of_block hblk _
      have z1 : w2.frozen? ⟨b, k * 3 + 1, none⟩ = false := free_of_block hblk _
      have z2 : w2.frozen? ⟨b, k * 3 + 2, none⟩ = false := free_of_block hblk _
      have Hp2k := hid (show KM r w (((w2.setCell ⟨b, k * 3, none⟩ (.int .i64 p)).setCell ⟨b, k * 3 + 1, none⟩ (.string (bs m))).setCell ⟨b, k * 3 + 2, none⟩ (.slice none 0 0)) from by
        have c1 := heap_setCell_same w2 b (k * 3) _ _ (.int .i64 p) hblk
        have c2 := heap_setCell_same _ b (k * 3 + 1) _ _ (.string (bs m)) c1
        exact (((KM.pure Hp2.out).setCell (by omega) hblk _ _).setCell (by omega) c1 _ _).setCell (by omega) c2 _ _)
      clear hm hblk
      generalize hM1 : bs (R.getD k e0).2.1 = M1 at *
      generalize hM2 : bs m = M2 at *
      clear hM1 hM2
      go_wp2
      go_ret
      exact rkp_mk (rkr_new Hn.out Hm.out) ⟨_, _, HR.out⟩ (Hp2k.out)
end Go.Proofs.Ytofengnbedebpaa

