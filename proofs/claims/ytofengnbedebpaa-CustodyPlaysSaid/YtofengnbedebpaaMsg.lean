/- Messages: rows of five cells; ref05's May. -/
import Derived.Test.YtofengnbedebpaaHas
namespace Go.Proofs.Ytofengnbedebpaa
open Go.RowKit Go.Maps

abbrev Msg := Dot × List UInt8 × List UInt8 × Int
def mcells (m : Msg) : List Value := [.int .i64 m.1.1, .int .i64 m.1.2, .string (bs m.2.1), .string (bs m.2.2.1), .int .i64 m.2.2.2]
def mvs (l : List Msg) : List Value := l.flatMap mcells
def Msgs (w : World) (v : Value) (l : List Msg) : Prop := Row w v l.length 5 (mvs l)
def mv (m : Msg) : Value := .agg #[.int .i64 m.1.1, .int .i64 m.1.2, .string (bs m.2.1), .string (bs m.2.2.1), .int .i64 m.2.2.2]
def m0 : Msg := ((0, 0), [], [], 0)

theorem mvs_len (l : List Msg) : (mvs l).length = l.length * 5 := by
  induction l with
  | nil => rfl
  | cons d l ih => simp [mvs, mcells] at *; omega
theorem mvs_append (l k : List Msg) : mvs (l ++ k) = mvs l ++ mvs k := by simp [mvs]
theorem mvs_get : ∀ (l : List Msg) (k : Nat), k < l.length → ∀ j, j < 5 → (mvs l)[k * 5 + j]? = (mcells (l.getD k m0))[j]?
  | [], k, h, _, _ => absurd h (Nat.not_lt_zero _)
  | d :: l, 0, _, j, hj => by
    have e : mvs (d :: l) = mcells d ++ mvs l := rfl
    rw [e, List.getElem?_append_left (by simp [mcells]; omega)]
    simp [List.getD]
  | d :: l, k + 1, h, j, hj => by
    have ih := mvs_get l k (by simpa using h) j hj
    have e : mvs (d :: l) = mcells d ++ mvs l := rfl
    have hl : (mcells d).length = 5 := rfl
    rw [e, List.getElem?_append_right (by rw [hl]; omega), hl, show (k + 1) * 5 + j - 5 = k * 5 + j by omega, ih]
    simp [List.getD]
theorem mvs_one (l : List Msg) : ∀ u ∈ mvs l, u.oneCell' = true := by
  intro u hu
  simp only [mvs, List.mem_flatMap, mcells] at hu
  obtain ⟨d, _, hd⟩ := hu
  simp at hd
  rcases hd with rfl | rfl | rfl | rfl | rfl <;> rfl
theorem Msgs.shape {w : World} {v : Value} {l : List Msg} (h : Msgs w v l) : ∃ a cap, v = .slice a l.length cap := Row.shape h
theorem Msgs.get {w : World} {a : Option Addr} {n cap : Nat} {l : List Msg} (h : Msgs w (.slice a n cap) l) {k : Nat} (hk : k < l.length) :
    ∃ b off, a = some ⟨b, off, none⟩ ∧ b < w.heap.size ∧ w.cell? ⟨b, off + k * 5, none⟩ = some (.int .i64 (l.getD k m0).1.1) ∧ w.cell? ⟨b, off + k * 5 + 1, none⟩ = some (.int .i64 (l.getD k m0).1.2) ∧ w.cell? ⟨b, off + k * 5 + 2, none⟩ = some (.string (bs (l.getD k m0).2.1)) ∧ w.cell? ⟨b, off + k * 5 + 3, none⟩ = some (.string (bs (l.getD k m0).2.2.1)) ∧ w.cell? ⟨b, off + k * 5 + 4, none⟩ = some (.int .i64 (l.getD k m0).2.2.2) := by
  have e : n = l.length := by obtain ⟨a', c', e⟩ := h.shape; injection e
  subst e
  obtain ⟨b, off, e, hb, hc⟩ := Row.elem h hk
  have g := mvs_get l k hk
  exact ⟨b, off, e, hb, (hc 0 (by omega)).trans (g 0 (by omega)), (hc 1 (by omega)).trans (g 1 (by omega)), (hc 2 (by omega)).trans (g 2 (by omega)), (hc 3 (by omega)).trans (g 3 (by omega)), (hc 4 (by omega)).trans (g 4 (by omega))⟩
theorem take_succ_m (l : List Msg) (k : Nat) (h : k < l.length) : l.take (k + 1) = l.take k ++ [l.getD k m0] := by
  rw [List.take_succ_eq_append_getElem h]; simp [List.getD, h]
theorem mem_get_m {l : List Msg} {k : Nat} (h : k < l.length) : l.getD k m0 ∈ l := by simp [List.getD, h]

def mmay (m : Msg) : Bool := dchk m.1 && decide (1 ≤ m.2.1.length) && decide (m.2.1.length ≤ 40) && decide (m.2.2.1.length ≤ 1000) && decide (0 ≤ m.2.2.2) && decide (m.2.2.2 ≤ 1048576)

set_option maxRecDepth 8000 in
set_option maxHeartbeats 2000000 in
theorem rmay_any (m : Msg) (w : World) :
    Calls Try.prog 40 #[mv m] w fun e w' => e = .returned (.bool (mmay m)) ∧ Pure w w' := by
  obtain ⟨⟨x, y⟩, q, b, c⟩ := m
  have hc := hid (fun W => rchk_any (x, y) W)
  have hq := bs_size q
  have hb := bs_size b
  unfold mmay mv
  unfold dv at *
  dsimp only at *
  rw [← hq, ← hb]
  generalize dchk (x, y) = I at *
  generalize bs q = Q at *
  generalize bs b = B at *
  clear hq hb
  obtain ⟨wz, hwz⟩ : ∃ wz, wz = w.alloc (.cells #[.int .i64 x, .int .i64 y, .string Q, .string B, .int .i64 c] 69) := ⟨_, rfl⟩
  have Hwz := hid (show Pure w wz from by rw [hwz]; exact (Below.refl _ _).alloc (Nat.le_refl _) _)
  have b0 : wz.heap[w.heap.size]? = some (.cells #[.int .i64 x, .int .i64 y, .string Q, .string B, .int .i64 c] 69 (0, 0)) := by rw [hwz]; exact block_alloc_new _ _
  have hS : Hid (∀ W, Pure wz W → (W.cell? ⟨w.heap.size, 2, none⟩ = some (.string Q) ∧ W.cell? ⟨w.heap.size, 3, none⟩ = some (.string B) ∧ W.cell? ⟨w.heap.size, 4, none⟩ = some (.int .i64 c) ∧ Pure w W)) := fun W hW => by
    have e0 := (hW.block _ (lt_of_block b0)).trans b0
    exact ⟨cell_of_block e0 2, cell_of_block e0 3, cell_of_block e0 4, Hwz.out.then_ hW⟩
  clear b0
  go_enter Try.func40, Try.ntmps40
  go_wp2_with fail
  rw [← hwz]
  clear hwz
  refine (hc.out wz).mono ?_
  rintro e w1 ⟨rfl, hp1⟩
  obtain ⟨f0, f1, f2, hp⟩ := hS.out w1 hp1
  have Hp := hid hp
  clear hp1 hp
  cases I with
  | false =>
    go_wp2
    go_ret
    exact ⟨rfl, Hp.out⟩
  | true =>
    by_cases h1 : 1 ≤ Q.size
    · by_cases h2 : Q.size ≤ 40
      · by_cases h3 : B.size ≤ 1000
        · by_cases h4 : 0 ≤ c
          · go_wp2
            go_ret
            exact ⟨ret_bool (by simp [h1, h2, h3, h4]), Hp.out⟩
          · go_wp2
            go_ret
            exact ⟨ret_bool (by simp; try omega), Hp.out⟩
        · go_wp2
          go_ret
          exact ⟨ret_bool (by simp; try omega), Hp.out⟩
      · go_wp2
        go_ret
        exact ⟨ret_bool (by simp; try omega), Hp.out⟩
    · go_wp2
      go_ret
      exact ⟨ret_bool (by simp; try omega), Hp.out⟩
end Go.Proofs.Ytofengnbedebpaa
