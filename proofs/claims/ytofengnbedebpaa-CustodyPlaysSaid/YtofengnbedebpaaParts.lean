/- custody: Parts; of no custody, of a zero one. -/
import Derived.Test.YtofengnbedebpaaKeysC
namespace Go.Proofs.Ytofengnbedebpaa
open Go.RowKit Go.Maps Go.MapKept

set_option maxHeartbeats 1000000 in
theorem cuparts_any (base c : Nat) (S : CuS) (w : World) (h : Cu w base c S) (hl : S.length ≤ 1000) :
    Calls Try.prog 19 #[.pointer (some ⟨c, 0, none⟩)] w fun e w' => ∃ v', e = .returned v' ∧ w'.ownsRow w.heap.size 3 1 v' (srt (S.map (·.1))).length ((srt (S.map (·.1))).map (Value.int .i64)) ∧ Pure w w' := by
  obtain ⟨mb, hb, bl, h⟩ := h
  have k0 : w.cell? ⟨c, 0, none⟩ = some (.map (some mb)) := cell_of_block h.blk 0
  have hk := hid (keys_call (some mb) w)
  have hs := sorted_call strV mb (S.map cmk) w h.marks (by rw [List.length_map]; omega)
  rw [List.map_map, show ((fun x : Int × List UInt8 => x.1) ∘ cmk) = (fun e : CEnt => e.1) from rfl] at hs
  have Hs := hid hs
  clear h hs
  go_enter Try.func19, Try.ntmps19
  go_wp2_with fail
  refine hk.out.mono ?_
  rintro e w1 ⟨rfl, rfl⟩
  go_wp2_with fail
  refine Hs.out.mono ?_
  rintro e w2 ⟨v2, rfl, hown2, hp2⟩
  obtain ⟨a2, cap2, rfl⟩ := (Row.of_own hown2).shape
  go_wp2
  go_ret
  exact ⟨_, rfl, hown2, hp2⟩

/-! ### of no custody nothing comes -/
set_option maxHeartbeats 1000000 in
theorem nkeep_any (p : Int) (v0 v1 v2 : Value) (w : World) :
    Calls Try.prog 12 #[.pointer none, .int .i64 p, .agg #[v0, v1, v2]] w fun e w' => e = .returned (.bool false) ∧ Pure w w' := by
  go_enter Try.func12, Try.ntmps12
  go_wp2
  go_ret
  exact ⟨rfl, (Below.refl _ _).alloc (Nat.le_refl _) _⟩
set_option maxHeartbeats 1000000 in
theorem nheard_any (p node : Int) (s : ByteArray) (w : World) :
    Calls Try.prog 13 #[.pointer none, .int .i64 p, .int .i64 node, .string s] w fun e w' => e = .returned (.bool false) ∧ w = w' := by
  go_enter Try.func13, Try.ntmps13
  go_wp2
  go_ret
  exact ⟨rfl, rfl⟩
set_option maxHeartbeats 1000000 in
theorem nsafe_any (p : Int) (v : Value) (w : World) :
    Calls Try.prog 16 #[.pointer none, .int .i64 p, v] w fun e w' => e = .returned (.bool false) ∧ w = w' := by
  go_enter Try.func16, Try.ntmps16
  go_wp2
  go_ret
  exact ⟨rfl, rfl⟩
set_option maxHeartbeats 1000000 in
theorem nmark_any (p : Int) (w : World) :
    Calls Try.prog 17 #[.pointer none, .int .i64 p] w fun e w' => e = .returned (.string ⟨#[]⟩) ∧ w = w' := by
  go_enter Try.func17, Try.ntmps17
  go_wp2
  go_ret
  exact ⟨rfl, rfl⟩
set_option maxHeartbeats 1000000 in
theorem nparts_any (w : World) :
    Calls Try.prog 19 #[.pointer none] w fun e w' => e = .returned (.slice none 0 0) ∧ w = w' := by
  go_enter Try.func19, Try.ntmps19
  go_wp2
  go_ret
  exact ⟨rfl, rfl⟩
set_option maxHeartbeats 1000000 in
theorem nlack_any (p : Int) (a : Option Addr) (n cap : Nat) (w : World) :
    Calls Try.prog 15 #[.pointer none, .int .i64 p, .slice a n cap] w fun e w' => e = .returned (.slice none 0 0) ∧ Pure w w' := by
  go_enter Try.func15, Try.ntmps15
  go_wp2
  go_step3
  go_wp2
  rw [Exit.noGoto_ret]
  go_ret
  exact ⟨rfl, ((Below.refl _ _).alloc (Nat.le_refl _) _).alloc (by simp) _⟩

/-! ### a zero custody -/
theorem zlook (w : World) (p : Int) (hw : (Lit.int .i64 p).wf = true) : (Instr.lookup 58 (.map none) (.int .i64 p) true).run Try.prog w = .ok (.tuple #[.string ⟨#[]⟩, .bool false]) w :=
  Maps.look_nil (P := Try.prog) true (int_keyed Try.underlying3) Try.underlying58 (zeroStr w) (keyOf_int_mk Try.underlying3 hw)
set_option maxHeartbeats 1000000 in
theorem zheard_any (c : Nat) (p node : Int) (s : ByteArray) (w : World) (h : w.heap[c]? = some (.cells #[.map none, .map none] 61 (0, 0))) (hw : (Lit.int .i64 p).wf = true) :
    Calls Try.prog 13 #[.pointer (some ⟨c, 0, none⟩), .int .i64 p, .int .i64 node, .string s] w fun e w' => e = .returned (.bool false) ∧ w = w' := by
  have k0 : w.cell? ⟨c, 0, none⟩ = some (.map none) := cell_of_block h 0
  have hl := zlook w p hw
  clear h
  go_enter Try.func13, Try.ntmps13
  go_wp2
  go_ret
  exact ⟨rfl, rfl⟩

theorem KC.setC {base c : Nat} {a b : World} (h : KC base c a b) (hb : base ≤ c) (i : Nat) (v : Value) : KC base c a (b.setCell ⟨c, i, none⟩ v) :=
  ⟨h.os, h.tape, h.output, by have := h.size; simpa [World.setCell] using this, fun k hk hs => (Below.heap_setCell _ _ _ _ (fun e => by subst e; exact absurd hb (by simpa using Nat.not_le.2 hk))).trans (h.low k hk hs), fun k cs t f hk hb' => (Below.heap_setCell _ _ _ _ (fun e => hk (by subst e; rfl))).trans (h.rows k cs t f hk hb')⟩
end Go.Proofs.Ytofengnbedebpaa
