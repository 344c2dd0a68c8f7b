import Derived.Test.YtffafdkjgllpcaaClaimA
namespace Go.Proofs.Ytffafdkjgllpcaa
open Go.RowKit Go.Maps

/-- A claim, as data. -/
structure CM where
  d1 : Int
  d2 : Int
  receipt : Int
  owners : List Int
  start : Int
  term : Int
  skew : Int
  said : List (Int × Bool)
  state : Int

def CM.cells (c : CM) (vo : Value) (bm : Nat) : Array Value := #[I c.d1, I c.d2, I c.receipt, vo, I c.start, I c.term, I c.skew, .map (some bm), I c.state]

structure ClaimAt (w : World) (b bm : Nat) (vo : Value) (c : CM) : Prop where
  blk : w.heap[b]? = some (.cells (c.cells vo bm) 52 (0, 0))
  own : Ints w vo c.owners
  sep : vo.rb ≠ some b
  sepm : vo.rb ≠ some bm
  map : IMap Value.bool w bm c.said

theorem ClaimAt.ne {w : World} {b bm : Nat} {vo : Value} {c : CM} (h : ClaimAt w b bm vo c) : b ≠ bm := by
  obtain ⟨es, clock, hb, _⟩ := h.map
  intro e; subst e; rw [h.blk] at hb; cases hb

theorem ClaimAt.kept {S : Nat → Prop} {w w' : World} {b bm : Nat} {vo : Value} {c : CM} (h : ClaimAt w b bm vo c) (hk : Kept S w w') (h1 : ¬ S b) (h2 : ¬ S bm) (h3 : ∀ k, vo.rb = some k → ¬ S k) : ClaimAt w' b bm vo c :=
  ⟨(hk.block b (lt_of_block h.blk) h1).trans h.blk, h.own.kept hk h3, h.sep, h.sepm, h.map.kept hk h2⟩
theorem ClaimAt.pure {w w' : World} {b bm : Nat} {vo : Value} {c : CM} (h : ClaimAt w b bm vo c) (hk : Pure w w') : ClaimAt w' b bm vo c :=
  h.kept (S := fun _ => False) hk.kept (fun h => h) (fun h => h) (fun _ _ h => h)


/-- The zero claim. -/
def zeroCM : Array Value := #[I 0, I 0, I 0, .slice none 0 0, I 0, I 0, I 0, .map none, I 0]

set_option maxHeartbeats 400000 in
theorem made_yes (b bm : Nat) (vo : Value) (c : CM) (w : World) (h : ClaimAt w b bm vo c) :
    Calls Try.prog 33 #[.pointer (some ⟨b, 0, none⟩)] w fun e w' => e = .returned (.bool true) ∧ w = w' := by
  have c6 : w.cell? ⟨b, 7, none⟩ = some (.map (some bm)) := cell_of_block h.blk 7
  have hn := run_neq_map_nil (P := Try.prog) w 50 3 4 (some bm) Try.underlying50
  simp only [Option.isNone_some, Bool.not_false] at hn
  clear h
  go_enter Try.func33, Try.ntmps33
  go_wp2
  go_ret
  exact ⟨rfl, rfl⟩

set_option maxHeartbeats 400000 in
theorem made_zero (b : Nat) (w : World) (h : w.heap[b]? = some (.cells zeroCM 52 (0, 0))) :
    Calls Try.prog 33 #[.pointer (some ⟨b, 0, none⟩)] w fun e w' => e = .returned (.bool false) ∧ w = w' := by
  have c6 : w.cell? ⟨b, 7, none⟩ = some (.map none) := cell_of_block h 7
  have hn := run_neq_map_nil (P := Try.prog) w 50 3 4 none Try.underlying50
  simp only [Option.isNone_none, Bool.not_true] at hn
  clear h
  go_enter Try.func33, Try.ntmps33
  go_wp2
  go_ret
  exact ⟨rfl, rfl⟩

set_option maxHeartbeats 400000 in
theorem made_nil (w : World) :
    Calls Try.prog 33 #[.pointer none] w fun e w' => e = .returned (.bool false) ∧ w = w' := by
  go_enter Try.func33, Try.ntmps33
  go_wp2
  go_ret
  exact ⟨rfl, rfl⟩

set_option maxHeartbeats 400000 in
theorem state_yes (b bm : Nat) (vo : Value) (c : CM) (w : World) (h : ClaimAt w b bm vo c) :
    Calls Try.prog 11 #[.pointer (some ⟨b, 0, none⟩)] w fun e w' => e = .returned (.int .i64 c.state) ∧ w = w' := by
  have c8 : w.cell? ⟨b, 8, none⟩ = some (.int .i64 c.state) := cell_of_block h.blk 8
  have hm := made_yes b bm vo c w h
  clear h
  go_enter Try.func11, Try.ntmps11
  go_wp2_with (go_at_call 33; refine hm.mono ?_; rintro e w' ⟨rfl, rfl⟩)
  go_ret
  exact ⟨rfl, rfl⟩

set_option maxHeartbeats 400000 in
theorem state_no (p : Option Addr) (w : World) (hm : Calls Try.prog 33 #[.pointer p] w fun e w' => e = .returned (.bool false) ∧ w = w') :
    Calls Try.prog 11 #[.pointer p] w fun e w' => e = .returned (.int .i64 2) ∧ w = w' := by
  have Hm := hid hm
  clear hm
  go_enter Try.func11, Try.ntmps11
  go_wp2_with (go_at_call 33; refine Hm.out.mono ?_; rintro e w' ⟨rfl, rfl⟩)
  go_ret
  exact ⟨rfl, rfl⟩

def within (n least most : Int) : Bool := decide (least ≤ n) && decide (n ≤ most)
theorem within_yes {n least most : Int} (h1 : least ≤ n) (h2 : n ≤ most) : within n least most = true := by simp [within, h1, h2]
theorem within_no1 {n least most : Int} (h1 : ¬ least ≤ n) : within n least most = false := by simp [within]; omega
theorem within_no2 {n least most : Int} (h1 : ¬ n ≤ most) : within n least most = false := by simp [within]; omega

set_option maxHeartbeats 400000 in
theorem within_any (n least most : Int) (w : World) :
    Calls Try.prog 29 #[.int .i64 n, .int .i64 least, .int .i64 most] w fun e w' => e = .returned (.bool (within n least most)) ∧ w = w' := by
  by_cases h1 : least ≤ n
  · by_cases h2 : n ≤ most
    · rw [within_yes h1 h2]
      go_enter Try.func29, Try.ntmps29
      go_wp2
      go_ret
      exact ⟨rfl, rfl⟩
    · rw [within_no2 h2]
      go_enter Try.func29, Try.ntmps29
      go_wp2
      go_ret
      exact ⟨rfl, rfl⟩
  · rw [within_no1 h1]
    go_enter Try.func29, Try.ntmps29
    go_wp2
    go_ret
    exact ⟨rfl, rfl⟩
end Go.Proofs.Ytffafdkjgllpcaa
