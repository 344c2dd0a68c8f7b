/- strings.Builder: a builder of the call's own, written by WriteString. -/
import Derived.Test.YtcjggofcmjpfnaaGreatNumP
import Derived.Lib.Builder
import Derived.Lib.AppendStr
import Derived.Lib.UnsafeStr
import Derived.Laws.Externs
import Derived.Laws.IdiomCopy
namespace Go.Proofs.YtcjggofcmjpfnaaGreat
open Go.RowKit Go.Maps

theorem sizeBuilder : (Tryz.prog.info? 119).map (·.size) = some 2 := by kernel_rfl
theorem liesBuilder : liesAt Tryz.prog Tryz.prog.depth 119 (2 / Tryz.prog.cellsOf 119) 0 119 1 = true := by kernel_rfl

/-- Block b is a builder that holds the bytes l; v: its buffer. -/
structure Bd (b : Nat) (v : Value) (l : List UInt8) (w : World) : Prop where
  blk : ∃ p, (p = .pointer none ∨ p = .pointer (some ⟨b, 0, none⟩)) ∧ w.heap[b]? = some (.cells #[p, v] 119 (0, 0))
  row : w.ownsRow (b + 1) 5 1 v l.length (Lib.byteCells l)
theorem Bd.pure {b : Nat} {v : Value} {l : List UInt8} {w w' : World} (h : Bd b v l w) (hp : Pure w w') : Bd b v l w' := by
  obtain ⟨⟨p, hpp, hb⟩, hr⟩ := h
  exact ⟨⟨p, hpp, (hp.block _ (lt_of_block hb)).trans hb⟩, own_pure hr hp⟩
theorem Bd.lt {b : Nat} {v : Value} {l : List UInt8} {w : World} (h : Bd b v l w) : b < w.heap.size := by
  obtain ⟨⟨p, hpp, hb⟩, hr⟩ := h
  exact lt_of_block hb
theorem Bd.fresh (w : World) : Bd w.heap.size (.slice none 0 0) [] (w.alloc (.cells #[.pointer none, .slice none 0 0] 119)) :=
  ⟨⟨_, .inl rfl, block_alloc_new _ _⟩, World.ownsRow_nil _ _ _ _⟩
theorem Bd.is {b : Nat} {v : Value} {l : List UInt8} {w : World} (h : Bd b v l w) : Lib.IsBuilder 119 5 b b (Lib.byteCells l) w := by
  obtain ⟨⟨p, hpp, hb⟩, hr⟩ := h
  have hl := Lib.byteCells_length l
  have hA : Lib.BuilderAt 119 5 b b p (Lib.byteCells l) w := ⟨Nat.le_refl _, v, hb, by rw [hl]; exact own_mono hr (Nat.le_succ _), own_ne hr (Nat.lt_succ_self _)⟩
  rcases hpp with rfl | rfl
  · exact .inl hA
  · exact .inr hA

set_option maxHeartbeats 1000000 in
set_option maxRecDepth 100000 in
theorem bcheck_any (b : Nat) (v : Value) (l : List UInt8) (w : World) (h : Bd b v l w) :
    Calls Tryz.prog 110 #[.pointer (some ⟨b, 0, none⟩)] w fun e w' => e = .returned (.tuple #[]) ∧ w'.heap[b]? = some (.cells #[.pointer (some ⟨b, 0, none⟩), v] 119 (0, 0)) ∧ w'.ownsRow (b + 1) 5 1 v l.length (Lib.byteCells l) ∧ Kept (fun k => k = b) w w' := by
  obtain ⟨⟨p, hpp, hb⟩, hr⟩ := h
  obtain ⟨j, hj, hjs⟩ := Option.map_eq_some_iff.1 sizeBuilder
  have h0 : w.cell? ⟨b, 0, none⟩ = some p := cell_of_block hb 0
  have hfz : w.frozen? ⟨b, 0, none⟩ = false := free_of_block hb 0
  have hsh : w.shape? b = some (119, 2) := by simp [World.shape?, hb]
  rcases hpp with rfl | rfl
  · have hfin : Hid ((w.setCell ⟨b, 0, none⟩ (.pointer (some ⟨b, 0, none⟩))).heap[b]? = some (.cells #[.pointer (some ⟨b, 0, none⟩), v] 119 (0, 0)) ∧ (w.setCell ⟨b, 0, none⟩ (.pointer (some ⟨b, 0, none⟩))).ownsRow (b + 1) 5 1 v l.length (Lib.byteCells l) ∧ Kept (fun k => k = b) w (w.setCell ⟨b, 0, none⟩ (.pointer (some ⟨b, 0, none⟩)))) :=
      ⟨by have := block_setCell hb 0 (.pointer (some ⟨b, 0, none⟩)); simpa using this, own_setCell hr ⟨b, 0, none⟩ (Nat.lt_succ_self _) _, Kept.setCell (S := fun k => k = b) (Kept.refl _ w) (p := ⟨b, 0, none⟩) (fun _ => rfl) _⟩
    clear hb hr
    go_enter Tryz.func110, Tryz.ntmps110
    go_wp2
    rw [Lib.run_to_unsafe w ⟨b, 0, none⟩ Tryz.underlying116 Tryz.underlying151 hj (by rw [hjs]; decide) hsh (Nat.zero_lt_succ 1)]
    simp only [Result.andThen]
    rw [Oper.upon_value]
    go_wp2
    rw [run_callFunc_extern Tryz.func135 (by kernel_rfl) (by kernel_rfl) (by kernel_rfl) (e := Extern.AbiNoEscape.same) (by kernel_rfl)]
    rw [Lib.run_noEscape]
    simp only [Result.andThen]
    rw [Oper.upon_value]
    go_wp2
    rw [Lib.run_from_unsafe w ⟨b, 0, none⟩ Tryz.underlying151 Tryz.underlying116 hj hsh liesBuilder]
    simp only [Result.andThen]
    rw [Oper.upon_value]
    go_wp2
    go_end0
    exact ⟨rfl, hfin.out⟩
  · have hfin := hid (And.intro hb (And.intro hr (Kept.refl (fun k => k = b) w)))
    clear hb hr
    go_enter Tryz.func110, Tryz.ntmps110
    go_wp2
    rw [Lib.run_neq_ptr_same w _ Tryz.underlying116 hj]
    go_wp2
    go_end0
    exact ⟨rfl, hfin.out⟩
theorem infoByte : (Tryz.prog.info? 5).map (fun i => (i.zero, i.size, i.bytes)) = some (some (.int .u8 0), 1, 1) := by kernel_rfl
set_option maxHeartbeats 2000000 in
set_option maxRecDepth 100000 in
theorem bwrite_any (b : Nat) (v : Value) (l s : List UInt8) (w : World) (h : Bd b v l w) (hl : l.length + s.length ≤ 1000000000) :
    Calls Tryz.prog 95 #[.pointer (some ⟨b, 0, none⟩), .string (bs s)] w fun e w' => e = .returned (.tuple #[.int .i64 s.length, .nilIface]) ∧ ∃ v', Bd b v' (l ++ s) w' ∧ Kept (fun k => k = b ∨ v.ownBlock = some k) w w' := by
  have hc := hid (bcheck_any b v l w h)
  obtain ⟨i0, hi, hz0, hz1, hz2⟩ := info_parts infoByte
  have hsz := bs_size s
  have hlt := h.lt
  have hstr : Lib.strCells (bs s) = Lib.byteCells s := rfl
  have Hstr := hid hstr
  have Hsz := hid hsz
  have hlong : (bs s).size ≤ 1000000000 := by omega
  clear hstr hsz h
  go_enter Tryz.func95, Tryz.ntmps95
  go_wp2_with fail
  refine hc.out.mono ?_
  rintro e w1 ⟨rfl, hb1, hr1, hk1⟩
  have c0 : w1.cell? ⟨b, 0, none⟩ = some (.pointer (some ⟨b, 0, none⟩)) := cell_of_block hb1 0
  have c1 : w1.cell? ⟨b, 1, none⟩ = some v := cell_of_block hb1 1
  have hltb : b < w1.heap.size := lt_of_block hb1
  have Hb1 := hid hb1
  have Hr1 := hid hr1
  have Hk1 := hid hk1
  obtain ⟨av, cv, rfl⟩ := own_shape_d hr1
  clear hb1 hr1 hk1
  go_wp2_with (at_builtin; refine Lib.wpList_append_own_string _ rfl _ _ 117 9 rfl (b + 1) 5 i0 Tryz.underlying117 Tryz.underlying9 hi hz0 hz1 hz2 _ _ _ rfl Hr1.out (bs s) rfl ?c3 ?c4 ?c5 ?_)
  case c3 => unfold maxLen; omega
  case c4 => omega
  case c5 => omega
  intro v' w2 hown' hgrow _
  have hb2 : w2.heap[b]? = some (.cells #[.pointer (some ⟨b, 0, none⟩), .slice av l.length cv] 119 (0, 0)) :=
    (hgrow.block b hltb (fun e => own_ne Hr1.out (Nat.lt_succ_self _) e.symm)).trans Hb1.out
  have d0 : w2.cell? ⟨b, 0, none⟩ = some (.pointer (some ⟨b, 0, none⟩)) := cell_of_block hb2 0
  have d1 : w2.cell? ⟨b, 1, none⟩ = some (.slice av l.length cv) := cell_of_block hb2 1
  have f1 : w2.frozen? ⟨b, 1, none⟩ = false := free_of_block hb2 1
  obtain ⟨p', k', rfl⟩ := own_shape_d hown'
  have hown2 : w2.ownsRow (b + 1) 5 1 (.slice p' (l.length + (bs s).size) k') (l ++ s).length (Lib.byteCells (l ++ s)) := by
    rw [Hstr.out, ← Lib.byteCells_append] at hown'
    have e : l.length + (bs s).size = (l ++ s).length := by rw [Hsz.out, List.length_append]
    rw [e] at hown' ⊢
    exact hown'
  have hk : Kept (fun k => k = b ∨ (Value.slice av l.length cv).ownBlock = some k) w w2 := (Hk1.out.mono (fun k _ e => Or.inl e)).grown hgrow (fun k hk _ => .inr hk)
  have hfin := hid (show Bd b (.slice p' (l.length + (bs s).size) k') (l ++ s) (w2.setCell ⟨b, 1, none⟩ (.slice p' (l.length + (bs s).size) k')) ∧ Kept (fun k => k = b ∨ (Value.slice av l.length cv).ownBlock = some k) w (w2.setCell ⟨b, 1, none⟩ (.slice p' (l.length + (bs s).size) k')) from
    ⟨⟨⟨_, .inr rfl, by have := block_setCell hb2 1 (.slice p' (l.length + (bs s).size) k'); simpa using this⟩, own_setCell hown2 ⟨b, 1, none⟩ (Nat.lt_succ_self _) _⟩, Kept.setCell (S := fun k => k = b ∨ (Value.slice av l.length cv).ownBlock = some k) hk (p := ⟨b, 1, none⟩) (fun _ => .inl rfl) _⟩)
  clear hb2 hown' hown2 hk hgrow
  go_wp2
  go_ret2
  exact ⟨by rw [Hsz.out]; rfl, _, hfin.out⟩
end Go.Proofs.YtcjggofcmjpfnaaGreat
