/- Rows of peers: Clone; ids and Members; Suspect and Refute's changes; changed. -/
import Derived.Test.YtlamhobkmknnpaaCellsW
import Derived.Deep.RegionHeld3
namespace Go.Proofs.Ytlamhobkmknnpaa
open Go.RowKit Go.Maps

structure Pr where
  id : Int
  inc : Int
  st : Int
  deriving DecidableEq
def p0 : Pr := ⟨0, 0, 0⟩
def pcells (p : Pr) : List Value := [.int .i64 p.id, .int .i64 p.inc, .int .i64 p.st]
def pvs (l : List Pr) : List Value := l.flatMap pcells
def pv (p : Pr) : Value := .agg #[.int .i64 p.id, .int .i64 p.inc, .int .i64 p.st]
def Peers (w : World) (v : Value) (l : List Pr) : Prop := Row w v l.length 3 (pvs l)
theorem pvs_len (l : List Pr) : (pvs l).length = l.length * 3 := by
  induction l with
  | nil => rfl
  | cons d l ih => simp [pvs, pcells] at *; omega
theorem pvs_append (l k : List Pr) : pvs (l ++ k) = pvs l ++ pvs k := by simp [pvs]
theorem pvs_get : ∀ (l : List Pr) (k : Nat), k < l.length → ∀ j, j < 3 → (pvs l)[k * 3 + j]? = (pcells (l.getD k p0))[j]?
  | [], k, h, _, _ => absurd h (Nat.not_lt_zero _)
  | d :: l, 0, _, j, hj => by
    have e : pvs (d :: l) = pcells d ++ pvs l := rfl
    rw [e, List.getElem?_append_left (by simp [pcells]; omega)]
    simp [List.getD]
  | d :: l, k + 1, h, j, hj => by
    have ih := pvs_get l k (by simpa using h) j hj
    have e : pvs (d :: l) = pcells d ++ pvs l := rfl
    have hl : (pcells d).length = 3 := rfl
    rw [e, List.getElem?_append_right (by rw [hl]; omega), hl, show (k + 1) * 3 + j - 3 = k * 3 + j by omega, ih]
    simp [List.getD]
theorem pvs_one (l : List Pr) : ∀ u ∈ pvs l, u.oneCell' = true := by
  intro u hu
  simp only [pvs, List.mem_flatMap, pcells] at hu
  obtain ⟨d, _, hd⟩ := hu
  simp at hd
  rcases hd with rfl | rfl | rfl <;> rfl
theorem pvs_set (p : Pr) : ∀ (l : List Pr) (k : Nat), k < l.length → (((pvs l).set (k * 3) (.int .i64 p.id)).set (k * 3 + 1) (.int .i64 p.inc)).set (k * 3 + 2) (.int .i64 p.st) = pvs (l.set k p)
  | [], k, h => absurd h (Nat.not_lt_zero _)
  | d :: l, 0, _ => rfl
  | d :: l, k + 1, h => by
    have ih := pvs_set p l k (by simpa using h)
    have e : pvs (d :: l) = .int .i64 d.id :: .int .i64 d.inc :: .int .i64 d.st :: pvs l := rfl
    have e2 : pvs ((d :: l).set (k + 1) p) = .int .i64 d.id :: .int .i64 d.inc :: .int .i64 d.st :: pvs (l.set k p) := rfl
    rw [e, e2, ← ih, show (k + 1) * 3 = k * 3 + 1 + 1 + 1 by omega, show k * 3 + 1 + 1 + 1 + 1 = (k * 3 + 1) + 1 + 1 + 1 by omega, show k * 3 + 1 + 1 + 1 + 2 = (k * 3 + 2) + 1 + 1 + 1 by omega]
    simp only [List.set_cons_succ]
theorem Peers.shape {w : World} {v : Value} {l : List Pr} (h : Peers w v l) : ∃ a cap, v = .slice a l.length cap := Row.shape h
theorem Peers.get {w : World} {a : Option Addr} {n cap : Nat} {l : List Pr} (h : Peers w (.slice a n cap) l) {k : Nat} (hk : k < l.length) :
    ∃ b off, a = some ⟨b, off, none⟩ ∧ b < w.heap.size ∧ w.cell? ⟨b, off + k * 3, none⟩ = some (.int .i64 (l.getD k p0).id) ∧ w.cell? ⟨b, off + k * 3 + 1, none⟩ = some (.int .i64 (l.getD k p0).inc) ∧ w.cell? ⟨b, off + k * 3 + 2, none⟩ = some (.int .i64 (l.getD k p0).st) := by
  have e : n = l.length := by obtain ⟨a', c', e⟩ := h.shape; injection e
  subst e
  obtain ⟨b, off, e, hb, hc⟩ := Row.elem h hk
  have g := pvs_get l k hk
  exact ⟨b, off, e, hb, (hc 0 (by omega)).trans (g 0 (by omega)), (hc 1 (by omega)).trans (g 1 (by omega)), (hc 2 (by omega)).trans (g 2 (by omega))⟩
theorem take_succ_p (l : List Pr) (k : Nat) (h : k < l.length) : l.take (k + 1) = l.take k ++ [l.getD k p0] := by
  rw [List.take_succ_eq_append_getElem h]; simp [List.getD, h]
theorem mem_get_p {l : List Pr} {k : Nat} (h : k < l.length) : l.getD k p0 ∈ l := by simp [List.getD, h]
theorem infoPeer : (Try.prog.info? 28).map (fun i => (i.zero, i.size, i.bytes)) = some (some (.agg #[.int .i64 0, .int .i64 0, .int .i64 0]), 3, 24) := by kernel_rfl

set_option maxHeartbeats 400000 in
theorem clonep_any (v : Value) (l : List Pr) (w : World) (hr : Peers w v l) (hl : l.length ≤ 1000000) :
    Calls Try.prog 45 #[v] w fun e w' => ∃ v', e = .returned v' ∧ w'.ownsRow w.heap.size 28 3 v' l.length (pvs l) ∧ Pure w w' := by
  obtain ⟨a, cap, rfl⟩ := hr.shape
  obtain ⟨i0, hi, hz0, hz1, hz2⟩ := info_parts infoPeer
  cases a with
  | none =>
    have h0 : l = [] := by
      rcases Nat.eq_zero_or_pos l.length with h | h
      · exact List.eq_nil_of_length_eq_zero h
      · obtain ⟨_, _, e, _⟩ := hr.get h; cases e
    subst h0
    have he := Lib.run_eql_slice_nil (P := Try.prog) w 22 28 none 0 cap 0 0 Try.underlying22
    simp only [Option.isNone_none] at he
    go_enter Try.func45, Try.ntmps45
    go_wp2
    go_ret
    exact ⟨_, rfl, World.ownsRow_nil _ _ _ _, Below.refl _ _⟩
  | some x =>
    have he := Lib.run_eql_slice_nil (P := Try.prog) w 22 28 (some x) l.length cap 0 0 Try.underlying22
    simp only [Option.isNone_some] at he
    have Hr := hid (show Peers (w.alloc (.cells #[] 28)) (.slice (some x) l.length cap) l from Row.pure hr ((Below.refl _ _).alloc (Nat.le_refl _) _))
    clear hr
    go_enter Try.func45, Try.ntmps45
    go_wp2_with (at_builtin; refine wpList_append_rows rfl _ _ 22 rfl w.heap.size 28 i0 (.agg #[.int .i64 0, .int .i64 0, .int .i64 0]) 3 24 Try.underlying22 hi hz0 hz1 hz2 rfl (by decide) (by decide) _ 0 [] rfl (World.ownsRow_made w #[] 0 (Nat.le_refl _) (Nat.zero_le _) rfl) _ l.length (pvs l) rfl Hr.out (pvs_one l) (by omega) (by simp) ?_)
    intro v' w2 hown2 hg2
    have hown3 : w2.ownsRow w.heap.size 28 3 v' l.length (pvs l) := by simpa using hown2
    go_wp2
    go_ret
    exact ⟨_, rfl, hown3, ((Below.refl _ _).alloc (Nat.le_refl _) _).grown hg2 (by simp) (fun j hj => by simp [Value.ownBlock] at hj; omega)⟩

/-- Members. -/
def mem (l : List Pr) : List Int := (l.filter fun p => decide (p.st ≠ 2)).map (·.id)
set_option maxHeartbeats 400000 in
theorem members1_any (p : Pr) (w : World) : Calls Try.prog 49 #[pv p] w fun e w' => e = .returned (.bool (decide (p.st ≠ 2))) ∧ Pure w w' := by
  obtain ⟨a, b, c⟩ := p
  have hp := hid (show ∀ o, Pure w (w.alloc o) from fun o => (Below.refl _ _).alloc (Nat.le_refl _) o)
  unfold pv
  dsimp only
  by_cases h : c = 2
  · subst h
    go_enter Try.func49, Try.ntmps49
    go_wp2
    go_ret
    exact ⟨ret_bool (by simp), hp.out _⟩
  · have h' : (c != 2) = true := by simpa using h
    go_enter Try.func49, Try.ntmps49
    go_wp2
    go_ret
    exact ⟨ret_bool (by simp [h]), hp.out _⟩
/-- Suspect's change of one; Refute's. -/
def sus1 (p : Pr) : Pr := if p.st = 0 then ⟨p.id, p.inc, 1⟩ else p
def ref1 (p : Pr) : Pr := if p.st = 1 ∧ p.inc < 1073741824 then ⟨p.id, p.inc + 1, 0⟩ else p
set_option maxHeartbeats 400000 in
theorem suspect1_any (p : Pr) (w : World) : Calls Try.prog 46 #[pv p] w fun e w' => e = .returned (pv (sus1 p)) ∧ Pure w w' := by
  obtain ⟨a, b, c⟩ := p
  unfold pv sus1
  dsimp only
  by_cases h : c = 0
  · subst h
    go_enter Try.func46, Try.ntmps46
    go_wp2
    exact bodyPost_ret (v := .agg #[.int .i64 a, .int .i64 b, .int .i64 1]) (by simp [results, Try.results46, go_sem]) rfl ⟨rfl, ((Below.refl _ _).alloc (Nat.le_refl _) _).alloc (by simp) _⟩
  · have h' : (c == 0) = false := by simpa using h
    rw [if_neg h]
    go_enter Try.func46, Try.ntmps46
    go_wp2
    exact bodyPost_ret (v := .agg #[.int .i64 a, .int .i64 b, .int .i64 c]) (by simp [results, Try.results46, go_sem]) rfl ⟨rfl, ((Below.refl _ _).alloc (Nat.le_refl _) _).alloc (by simp) _⟩
set_option maxHeartbeats 400000 in
theorem refute1_any (p : Pr) (w : World) (h0 : 0 ≤ p.inc) (h1 : p.inc ≤ 1073741824) : Calls Try.prog 34 #[pv p] w fun e w' => e = .returned (pv (ref1 p)) ∧ Pure w w' := by
  obtain ⟨a, b, c⟩ := p
  dsimp only at h0 h1
  unfold pv ref1
  dsimp only
  by_cases h : c = 1
  · subst h
    by_cases hb : b < 1073741824
    · rw [if_pos ⟨rfl, hb⟩]
      go_enter Try.func34, Try.ntmps34
      go_wp2
      exact bodyPost_ret (v := .agg #[.int .i64 a, .int .i64 (b + 1), .int .i64 0]) (by simp [results, Try.results34, go_sem]) rfl ⟨rfl, ((Below.refl _ _).alloc (Nat.le_refl _) _).alloc (by simp) _⟩
    · rw [if_neg (fun e => hb e.2)]
      go_enter Try.func34, Try.ntmps34
      go_wp2
      exact bodyPost_ret (v := .agg #[.int .i64 a, .int .i64 b, .int .i64 1]) (by simp [results, Try.results34, go_sem]) rfl ⟨rfl, ((Below.refl _ _).alloc (Nat.le_refl _) _).alloc (by simp) _⟩
  · have h' : (c == 1) = false := by simpa using h
    rw [if_neg (fun e => h e.1)]
    go_enter Try.func34, Try.ntmps34
    go_wp2
    exact bodyPost_ret (v := .agg #[.int .i64 a, .int .i64 b, .int .i64 c]) (by simp [results, Try.results34, go_sem]) rfl ⟨rfl, ((Below.refl _ _).alloc (Nat.le_refl _) _).alloc (by simp) _⟩
end Go.Proofs.Ytlamhobkmknnpaa
