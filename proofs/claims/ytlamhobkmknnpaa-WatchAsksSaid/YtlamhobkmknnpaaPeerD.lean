/- ref09: May, few, Later, Find, Members, Same. -/
import Derived.Test.YtlamhobkmknnpaaPeerC
import Derived.Laws.StructEq
namespace Go.Proofs.Ytlamhobkmknnpaa
open Go.RowKit Go.Maps

def PB (p : Pr) : Prop := 1 ≤ p.id ∧ p.id ≤ 1000 ∧ 0 ≤ p.inc ∧ p.inc ≤ 1073741824 ∧ 0 ≤ p.st ∧ p.st ≤ 2
set_option maxHeartbeats 400000 in
theorem may_yes (p : Pr) (w : World) (h : PB p) : Calls Try.prog 21 #[pv p] w fun e w' => e = .returned (.bool true) ∧ Pure w w' := by
  obtain ⟨a, b, c⟩ := p
  obtain ⟨h1, h2, h3, h4, h5, h6⟩ := h
  dsimp only at h1 h2 h3 h4 h5 h6
  have h2' : a ≤ 1099511627776 := by omega
  unfold pv
  go_enter Try.func21, Try.ntmps21
  go_wp2
  go_ret
  exact ⟨rfl, (Below.refl _ _).alloc (Nat.le_refl _) _⟩
theorem few_small (v : Value) (l : List Pr) (w : World) (hr : Peers w v l) (hl : l.length ≤ 64) : Calls Try.prog 22 #[v] w fun e w' => e = .returned v ∧ w = w' := by
  obtain ⟨a, cap, rfl⟩ := hr.shape
  have h : ¬ (64 : Int) < (l.length : Int) := by omega
  clear hr
  go_enter Try.func22, Try.ntmps22
  go_wp2
  go_ret
  exact ⟨rfl, rfl⟩
def later (a b : Pr) : Pr := if a.st = 2 then (if b.st = 2 then (if b.inc < a.inc ∨ a.inc = b.inc ∧ b.st ≤ a.st then a else b) else a) else (if b.st = 2 then b else (if b.inc < a.inc ∨ a.inc = b.inc ∧ b.st ≤ a.st then a else b))
theorem pure3 (w : World) (a b c : Obj) : Pure w (((w.alloc a).alloc b).alloc c) := (((Below.refl _ _).alloc (Nat.le_refl _) _).alloc (by simp) _).alloc (by simp; omega) _
set_option maxHeartbeats 1000000 in
theorem later_any (a b : Pr) (w : World) : Calls Try.prog 32 #[pv a, pv b] w fun e w' => e = .returned (pv (later a b)) ∧ Pure w w' := by
  obtain ⟨a1, a2, a3⟩ := a
  obtain ⟨b1, b2, b3⟩ := b
  unfold pv later
  dsimp only
  have hp := hid (fun a b c => pure3 w a b c)
  by_cases ha : a3 = 2
  · have ha' : (a3 == 2) = true := by simp [ha]
    by_cases hb : b3 = 2
    · have hb' : (b3 == 2) = true := by simp [hb]
      rw [if_pos ha, if_pos hb]
      by_cases h1 : b2 < a2
      · rw [if_pos (.inl h1)]
        clear ha hb
        have h1' : decide (a2 > b2) = true := by simpa using h1
        go_enter Try.func32, Try.ntmps32
        go_wp2
        exact bodyPost_ret (v := .agg #[.int .i64 a1, .int .i64 a2, .int .i64 a3]) (by simp [results, Try.results32, go_sem]) rfl ⟨rfl, hp.out _ _ _⟩
      · by_cases h2 : a2 = b2
        · have h2' : (a2 == b2) = true := by simpa using h2
          have h3 : b3 ≤ a3 := by omega
          rw [if_pos (.inr ⟨h2, h3⟩)]
          clear ha hb h2
          go_enter Try.func32, Try.ntmps32
          go_wp2
          exact bodyPost_ret (v := .agg #[.int .i64 a1, .int .i64 a2, .int .i64 a3]) (by simp [results, Try.results32, go_sem]) rfl ⟨rfl, hp.out _ _ _⟩
        · have h2' : (a2 == b2) = false := by simpa using h2
          rw [if_neg (fun h => h.elim h1 (fun h => h2 h.1))]
          clear ha hb h2
          go_enter Try.func32, Try.ntmps32
          go_wp2
          exact bodyPost_ret (v := .agg #[.int .i64 b1, .int .i64 b2, .int .i64 b3]) (by simp [results, Try.results32, go_sem]) rfl ⟨rfl, hp.out _ _ _⟩
    · have hb' : (b3 == 2) = false := by simp [hb]
      rw [if_pos ha, if_neg hb]
      clear ha hb
      go_enter Try.func32, Try.ntmps32
      go_wp2
      exact bodyPost_ret (v := .agg #[.int .i64 a1, .int .i64 a2, .int .i64 a3]) (by simp [results, Try.results32, go_sem]) rfl ⟨rfl, hp.out _ _ _⟩
  · have ha' : (a3 == 2) = false := by simp [ha]
    by_cases hb : b3 = 2
    · have hb' : (b3 == 2) = true := by simp [hb]
      rw [if_neg ha, if_pos hb]
      clear ha hb
      go_enter Try.func32, Try.ntmps32
      go_wp2
      exact bodyPost_ret (v := .agg #[.int .i64 b1, .int .i64 b2, .int .i64 b3]) (by simp [results, Try.results32, go_sem]) rfl ⟨rfl, hp.out _ _ _⟩
    · have hb' : (b3 == 2) = false := by simp [hb]
      rw [if_neg ha, if_neg hb]
      clear ha hb
      by_cases h1 : b2 < a2
      · rw [if_pos (.inl h1)]
        go_enter Try.func32, Try.ntmps32
        go_wp2
        exact bodyPost_ret (v := .agg #[.int .i64 a1, .int .i64 a2, .int .i64 a3]) (by simp [results, Try.results32, go_sem]) rfl ⟨rfl, hp.out _ _ _⟩
      · by_cases h2 : a2 = b2
        · have h2' : (a2 == b2) = true := by simpa using h2
          by_cases h3 : b3 ≤ a3
          · rw [if_pos (.inr ⟨h2, h3⟩)]
            clear h2
            go_enter Try.func32, Try.ntmps32
            go_wp2
            exact bodyPost_ret (v := .agg #[.int .i64 a1, .int .i64 a2, .int .i64 a3]) (by simp [results, Try.results32, go_sem]) rfl ⟨rfl, hp.out _ _ _⟩
          · rw [if_neg (fun h => h.elim h1 (fun h => h3 h.2))]
            clear h2
            go_enter Try.func32, Try.ntmps32
            go_wp2
            exact bodyPost_ret (v := .agg #[.int .i64 b1, .int .i64 b2, .int .i64 b3]) (by simp [results, Try.results32, go_sem]) rfl ⟨rfl, hp.out _ _ _⟩
        · have h2' : (a2 == b2) = false := by simpa using h2
          rw [if_neg (fun h => h.elim h1 (fun h => h2 h.1))]
          clear h2
          go_enter Try.func32, Try.ntmps32
          go_wp2
          exact bodyPost_ret (v := .agg #[.int .i64 b1, .int .i64 b2, .int .i64 b3]) (by simp [results, Try.results32, go_sem]) rfl ⟨rfl, hp.out _ _ _⟩

def pfind (l : List Pr) (id : Int) : Option Pr := l.find? (fun p => p.id == id)
theorem pfind_hit {l : List Pr} {id : Int} {k : Nat} (h : k < l.length) (hn : ∀ p ∈ l.take k, p.id ≠ id) (hx : (l.getD k p0).id = id) : pfind l id = some (l.getD k p0) := by
  have hs : l = l.take k ++ l.getD k p0 :: l.drop (k + 1) := by
    have : l.getD k p0 = l[k] := by simp [List.getD, h]
    rw [this, ← List.drop_eq_getElem_cons h, List.take_append_drop]
  unfold pfind
  conv => lhs; rw [hs]
  rw [List.find?_append, List.find?_eq_none.2 (fun p hp => by simpa using hn p hp), List.find?_cons_of_pos (by simpa using hx)]
  rfl
theorem pfind_none {l : List Pr} {id : Int} (h : ∀ p ∈ l, p.id ≠ id) : pfind l id = none := List.find?_eq_none.2 (fun p hp => by simpa using h p hp)
set_option maxHeartbeats 1000000 in
theorem find_any (v : Value) (l : List Pr) (id : Int) (w : World) (hr : Peers w v l) :
    Calls Try.prog 13 #[v, .int .i64 id] w fun e w' => e = .returned (.tuple #[pv ((pfind l id).getD p0), .bool (pfind l id).isSome]) ∧ Pure w w' := by
  obtain ⟨a, cap, rfl⟩ := hr.shape
  have hll : l.length ≤ maxLen := Row.len_le hr
  unfold maxLen at hll
  have Hr := hid hr
  clear hr
  obtain ⟨wz, hwz⟩ : ∃ wz, wz = w.alloc (.cells #[.int .i64 0, .int .i64 0, .int .i64 0] 28) := ⟨_, rfl⟩
  have Hpz := hid (show Pure w wz from by rw [hwz]; exact (Below.refl _ _).alloc (Nat.le_refl _) _)
  have Hz := hid hwz
  have hbw := hid (show w.heap.size < wz.heap.size by rw [hwz]; simp)
  clear hwz
  go_enter Try.func13, Try.ntmps13
  go_wp2
  rw [← Hz.out]
  go_loop [6] (fun i => ∃ k : Nat, k ≤ l.length ∧ i = .int .i64 k ∧ ∀ p ∈ l.take k, p.id ≠ id) (fun i => l.length - (RowKit.intOf i).toNat)
  case atStart => exact ⟨0, Nat.zero_le _, rfl, by simp⟩
  case round =>
    obtain ⟨k, hk, rfl, hno⟩ := hrel
    by_cases hlt : k < l.length
    · obtain ⟨b, off, rfl, hb, d0, d1, d2⟩ := Peers.get (show Peers wz (.slice a l.length cap) l from Row.pure Hr.out Hpz.out) hlt
      have hlt' : (k : Int) < (l.length : Int) := by omega
      have hkk : (0 : Int) ≤ (k : Int) := by omega
      have Hhit := hid (pfind_hit hlt hno)
      have Hmiss : Hid ((l.getD k p0).id ≠ id → ∀ p ∈ l.take (k + 1), p.id ≠ id) := fun h p hp => by
        rw [take_succ_p l k hlt, List.mem_append, List.mem_singleton] at hp
        rcases hp with hp | rfl
        · exact hno p hp
        · exact h
      clear hno
      generalize l.getD k p0 = z at *
      obtain ⟨zi, zn, zs⟩ := z
      dsimp only at d0 d1 d2 Hhit Hmiss
      by_cases he : zi = id
      · have Hh := hid (Hhit.out he)
        have he' : (zi == id) = true := by simpa using he
        clear he Hhit Hmiss
        have f0 : wz.cell? ⟨w.heap.size, 0, none⟩ = some (.int .i64 0) := by rw [Hz.out, World.cell?_alloc_new]; rfl
        have f1 : wz.cell? ⟨w.heap.size, 1, none⟩ = some (.int .i64 0) := by rw [Hz.out, World.cell?_alloc_new]; rfl
        have f2 : wz.cell? ⟨w.heap.size, 2, none⟩ = some (.int .i64 0) := by rw [Hz.out, World.cell?_alloc_new]; rfl
        have hblk : wz.heap[w.heap.size]? = some (.cells #[.int .i64 0, .int .i64 0, .int .i64 0] 28 (0, 0)) := by rw [Hz.out]; exact block_alloc_new _ _
        have z0 : wz.frozen? ⟨w.heap.size, 0, none⟩ = false := free_of_block hblk _
        have z1 : wz.frozen? ⟨w.heap.size, 1, none⟩ = false := free_of_block hblk _
        have z2 : wz.frozen? ⟨w.heap.size, 2, none⟩ = false := free_of_block hblk _
        clear hblk
        go_wp2
        refine bodyPost_ret (v := .tuple #[.agg #[.int .i64 zi, .int .i64 zn, .int .i64 zs], .bool true]) ?_ rfl ⟨by rw [Hh.out]; rfl, ((Hpz.out.setCell (by simp) _).setCell (by simp) _).setCell (by simp) _⟩
        simp [results, Try.results13, go_sem, f0, f1, f2]
      · have he' : (zi == id) = false := by simpa using he
        have Hm := hid (Hmiss.out he)
        clear he Hhit Hmiss
        go_wp2
        go_round
        case rel => exact ⟨k + 1, by omega, by go_num, Hm.out⟩
        case measure => simp [RowKit.intOf]; omega
    · have hlt' : ¬ (k : Int) < (l.length : Int) := by omega
      have Hn := hid (pfind_none (l := l) (id := id) (by have := hno; rw [List.take_of_length_le (by omega)] at this; exact this))
      clear hno
      have f0 : wz.cell? ⟨w.heap.size, 0, none⟩ = some (.int .i64 0) := by rw [Hz.out, World.cell?_alloc_new]; rfl
      have f1 : wz.cell? ⟨w.heap.size, 1, none⟩ = some (.int .i64 0) := by rw [Hz.out, World.cell?_alloc_new]; rfl
      have f2 : wz.cell? ⟨w.heap.size, 2, none⟩ = some (.int .i64 0) := by rw [Hz.out, World.cell?_alloc_new]; rfl
      have hblk : wz.heap[w.heap.size]? = some (.cells #[.int .i64 0, .int .i64 0, .int .i64 0] 28 (0, 0)) := by rw [Hz.out]; exact block_alloc_new _ _
      have z0 : wz.frozen? ⟨w.heap.size, 0, none⟩ = false := free_of_block hblk _
      have z1 : wz.frozen? ⟨w.heap.size, 1, none⟩ = false := free_of_block hblk _
      have z2 : wz.frozen? ⟨w.heap.size, 2, none⟩ = false := free_of_block hblk _
      clear hblk
      have zz : zeroValue 28 = zeroValue 28 := rfl
      go_wp2
      refine bodyPost_ret (v := .tuple #[.agg #[.int .i64 0, .int .i64 0, .int .i64 0], .bool false]) ?_ rfl ⟨by rw [Hn.out]; rfl, ((Hpz.out.setCell (by simp) _).setCell (by simp) _).setCell (by simp) _⟩
      simp [results, Try.results13, go_sem, f0, f1, f2]
end Go.Proofs.Ytlamhobkmknnpaa
