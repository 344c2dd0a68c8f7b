/- watch: New, made, Clock, Waiting, Round, Heard. -/
import Derived.Test.YtlamhobkmknnpaaWatchA
import Derived.Laws.Cover3
namespace Go.Proofs.Ytlamhobkmknnpaa
open Go.RowKit Go.Maps Go.MapKept

set_option maxHeartbeats 1000000 in
theorem wnew_ok (own period patience : Int) (w : World) (h1 : 1 ≤ period) (h2 : period ≤ 1048576) (h3 : 1 ≤ patience) (h4 : patience ≤ 1048576) :
    Calls Try.prog 11 #[.int .i64 own, .int .i64 period, .int .i64 patience] w fun e w' => e = .returned (.pointer (some ⟨w.heap.size + 1, 0, none⟩)) ∧ WAt w' (w.heap.size + 1) w.heap.size (.slice none 0 0) ⟨own, period, patience, 0, 0, [], []⟩ ∧ Pure w w' := by
  have hmm := @run_makeMap Try.prog
  have a1 : ¬ period < 1 := by omega
  have a2 : ¬ patience < 1 := by omega
  have a3 : ¬ period > 1048576 := by omega
  have a4 : ¬ patience > 1048576 := by omega
  go_enter Try.func11, Try.ntmps11
  go_wp2
  go_ret
  refine ⟨rfl, ⟨?_, (IMap.made _ _).pure ((Below.refl _ _).alloc (Nat.le_refl _) _), Row.nil _ _, by omega, by simp [Value.rb], by simp [Value.rb]⟩, ((Below.refl _ _).alloc (Nat.le_refl _) _).alloc (by simp) _⟩
  have := block_alloc_new (w.alloc (.map #[] 0)) (.cells #[.int .i64 own, .int .i64 period, .int .i64 patience, .int .i64 0, .int .i64 0, .map (some w.heap.size), .slice none 0 0] 47)
  simpa using this
theorem wnew_no1 (w : World) : Calls Try.prog 11 #[.int .i64 1, .int .i64 0, .int .i64 1] w fun e w' => e = .returned (.pointer none) ∧ w = w' := by
  go_enter Try.func11, Try.ntmps11
  go_wp2
  go_ret
  exact ⟨rfl, rfl⟩
theorem wnew_no2 (w : World) : Calls Try.prog 11 #[.int .i64 1, .int .i64 1, .int .i64 1048577] w fun e w' => e = .returned (.pointer none) ∧ w = w' := by
  go_enter Try.func11, Try.ntmps11
  go_wp2
  go_ret
  exact ⟨rfl, rfl⟩
set_option maxHeartbeats 1000000 in
theorem wmade_yes (b mb : Nat) (vr : Value) (S : WS) (w : World) (h : WAt w b mb vr S) :
    Calls Try.prog 25 #[.pointer (some ⟨b, 0, none⟩)] w fun e w' => e = .returned (.bool true) ∧ w = w' := by
  have k5 : w.cell? ⟨b, 5, none⟩ = some (.map (some mb)) := cell_of_block h.blk 5
  have hn := run_neq_map_nil (P := Try.prog) w 45 3 3 (some mb) Try.underlying45
  simp only [Option.isNone_some, Bool.not_false] at hn
  clear h
  go_enter Try.func25, Try.ntmps25
  go_wp2
  go_ret
  exact ⟨rfl, rfl⟩
theorem wmade_nil (w : World) : Calls Try.prog 25 #[.pointer none] w fun e w' => e = .returned (.bool false) ∧ w = w' := by
  go_enter Try.func25, Try.ntmps25
  go_wp2
  go_ret
  exact ⟨rfl, rfl⟩
/-- A zero watch. -/
def ZAt (w : World) (b : Nat) : Prop := w.heap[b]? = some (.cells #[.int .i64 0, .int .i64 0, .int .i64 0, .int .i64 0, .int .i64 0, .map none, .slice none 0 0] 47 (0, 0))
set_option maxHeartbeats 1000000 in
theorem wmade_zero (b : Nat) (w : World) (h : ZAt w b) :
    Calls Try.prog 25 #[.pointer (some ⟨b, 0, none⟩)] w fun e w' => e = .returned (.bool false) ∧ w = w' := by
  have k5 : w.cell? ⟨b, 5, none⟩ = some (.map none) := cell_of_block h 5
  have hn := run_neq_map_nil (P := Try.prog) w 45 3 3 none Try.underlying45
  simp only [Option.isNone_none, Bool.not_true] at hn
  clear h
  go_enter Try.func25, Try.ntmps25
  go_wp2
  go_ret
  exact ⟨rfl, rfl⟩
set_option maxHeartbeats 1000000 in
theorem wwaiting_any (b mb : Nat) (vr : Value) (S : WS) (w : World) (h : WAt w b mb vr S) (hl : S.waits.length ≤ 100000) :
    Calls Try.prog 17 #[.pointer (some ⟨b, 0, none⟩)] w fun e w' => ∃ v', e = .returned v' ∧ w'.ownsRow w.heap.size 3 1 v' (srt (S.waits.map (·.1))).length ((srt (S.waits.map (·.1))).map (Value.int .i64)) ∧ Pure w w' := by
  have k0 : w.cell? ⟨b, 5, none⟩ = some (.map (some mb)) := cell_of_block h.blk 5
  have hk := hid (keys_call (some mb) w)
  have hs := sorted_call encI mb S.waits w h.map (by omega)
  have Hs := hid hs
  clear h hs
  go_enter Try.func17, Try.ntmps17
  go_wp2_with fail
  refine hk.out.mono ?_
  rintro e w1 ⟨rfl, rfl⟩
  go_wp2_with fail
  refine Hs.out.mono ?_
  rintro e w2 ⟨v2, rfl, hown2, hp2⟩
  obtain ⟨a2, cap2, rfl⟩ := (Row.of_own hown2).shape
  go_wp2
  go_ret
  exact ⟨_, rfl, hown2, hp2⟩
theorem wclock_nil (w : World) : Calls Try.prog 20 #[.pointer none] w fun e w' => e = .returned (.int .i64 0) ∧ w = w' := by
  go_enter Try.func20, Try.ntmps20
  go_wp2
  go_ret
  exact ⟨rfl, rfl⟩
theorem wwaiting_nil (w : World) : Calls Try.prog 17 #[.pointer none] w fun e w' => e = .returned (.slice none 0 0) ∧ w = w' := by
  go_enter Try.func17, Try.ntmps17
  go_wp2
  go_ret
  exact ⟨rfl, rfl⟩
theorem wround_nil (w : World) : Calls Try.prog 19 #[.pointer none] w fun e w' => e = .returned (.slice none 0 0) ∧ w = w' := by
  go_enter Try.func19, Try.ntmps19
  go_wp2
  go_ret
  exact ⟨rfl, rfl⟩
set_option maxHeartbeats 1000000 in
theorem wround_zero (b : Nat) (w : World) (h : ZAt w b) : Calls Try.prog 19 #[.pointer (some ⟨b, 0, none⟩)] w fun e w' => (∃ a c, e = .returned (.slice a 0 c)) ∧ Pure w w' := by
  have k6 : w.cell? ⟨b, 6, none⟩ = some (.slice none 0 0) := cell_of_block h 6
  have hc := hid (clone_any (.slice none 0 0) [] w (Row.nil _ _) (by simp))
  clear h
  go_enter Try.func19, Try.ntmps19
  go_wp2_with fail
  refine hc.out.mono ?_
  rintro e w1 ⟨v1, rfl, hown, hp⟩
  obtain ⟨a2, cap2, rfl⟩ := own_shape_p hown
  go_wp2
  go_ret
  exact ⟨⟨_, _, rfl⟩, hp⟩
theorem wheard_nil (id : Int) (w : World) : Calls Try.prog 16 #[.pointer none, .int .i64 id] w fun e w' => e = .returned (.bool false) ∧ w = w' := by
  go_enter Try.func16, Try.ntmps16
  go_wp2_with (go_at_call 25; (with_reducible refine (wmade_nil _).mono ?_); rintro e w' ⟨rfl, rfl⟩)
  go_ret
  exact ⟨rfl, rfl⟩
theorem wheard_zero (b : Nat) (id : Int) (w : World) (h : ZAt w b) : Calls Try.prog 16 #[.pointer (some ⟨b, 0, none⟩), .int .i64 id] w fun e w' => e = .returned (.bool false) ∧ w = w' := by
  have hm := hid (wmade_zero b w h)
  clear h
  go_enter Try.func16, Try.ntmps16
  go_wp2_with (go_at_call 25; (with_reducible refine hm.out.mono ?_); rintro e w' ⟨rfl, rfl⟩)
  go_ret
  exact ⟨rfl, rfl⟩
def WS.heard (S : WS) (id : Int) : WS := { S with waits := mdel S.waits id }
def W2 (b mb : Nat) (k : Nat) : Prop := k = b ∨ k = mb
/-- What delete leaves. -/
theorem WAt.turned {w w' : World} {b mb : Nat} {vr : Value} {S : WS} (h : WAt w b mb vr S) {m : List (Int × Int)} (hm : IMap encI w' mb m) (hg : w.grownBy w' (some mb)) : WAt w' b mb vr { S with waits := m } ∧ Kept (W2 b mb) w w' := by
  have hb := lt_of_block h.blk
  have hk : Kept (fun k => k = mb) w w' := (Kept.refl _ _).grown hg (fun k e _ => by simpa using e.symm)
  refine ⟨⟨(hk.block b hb h.ne).trans h.blk, hm, Row.kept h.rnd hk (fun k hk e => h.sepm (by rw [hk, e])), h.ne, h.sep, h.sepm⟩, hk.mono (fun k _ e => .inr e)⟩
set_option maxHeartbeats 1000000 in
theorem wheard_any (b mb : Nat) (vr : Value) (S : WS) (id : Int) (w : World) (h : WAt w b mb vr S) (hw : (Lit.int .i64 id).wf = true) :
    Calls Try.prog 16 #[.pointer (some ⟨b, 0, none⟩), .int .i64 id] w fun e w' => e = .returned (.bool (mlook S.waits id).isSome) ∧ WAt w' b mb vr (S.heard id) ∧ Kept (W2 b mb) w w' := by
  have hm := hid (wmade_yes b mb vr S w h)
  have k5 : w.cell? ⟨b, 5, none⟩ = some (.map (some mb)) := cell_of_block h.blk 5
  have hlook := h.map.look (P := Try.prog) Try.underlying3 Try.underlying45 (zeroInt _) id hw true
  simp only [if_true] at hlook
  have H := hid h
  have Hmap := hid h.map
  clear h
  generalize ((mlook S.waits id).map encI).getD (.int .i64 0) = z at *
  generalize (mlook S.waits id).isSome = B at *
  go_enter Try.func16, Try.ntmps16
  go_wp2_with (first
    | (go_at_call 25; (with_reducible refine hm.out.mono ?_); rintro e w' ⟨rfl, rfl⟩)
    | (at_delete; refine wpList_del encI rfl _ _ 45 3 rfl 3 Try.underlying3 Try.underlying45 mb S.waits rfl Hmap.out id hw rfl ?_; intro w1 hm1 hg1; have HT := hid (H.out.turned hm1 hg1); clear hm1 hg1))
  go_ret
  exact ⟨rfl, HT.out.1, HT.out.2⟩
end Go.Proofs.Ytlamhobkmknnpaa
