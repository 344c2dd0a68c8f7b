/- custody: Heard. -/
import Derived.Test.YtofengnbedebpaaCus2
namespace Go.Proofs.Ytofengnbedebpaa
open Go.RowKit Go.Maps Go.MapKept

theorem bs_list (l : List UInt8) : (bs l).toList = l := ByteArray.toList_mk l
theorem bs_beq (a b : List UInt8) : ((bs a).toList == (bs b).toList) = decide (a = b) := by
  rw [bs_list, bs_list]
  by_cases h : a = b <;> simp [h]

set_option maxRecDepth 8000 in
set_option maxHeartbeats 1000000 in
theorem cuheard_any (base c : Nat) (S : CuS) (p node : Int) (m : List UInt8) (w : World) (h : Cu w base c S) (hw : (Lit.int .i64 p).wf = true) (hw2 : (Lit.int .i64 node).wf = true) :
    Calls Try.prog 13 #[.pointer (some ⟨c, 0, none⟩), .int .i64 p, .int .i64 node, .string (bs m)] w fun e w' => e = .returned (.bool (cheard S p node m).2) ∧ Cu w' base c (cheard S p node m).1 ∧ KC base c w w' := by
  obtain ⟨mb, hb, bl, h⟩ := h
  have k0 : w.cell? ⟨c, 0, none⟩ = some (.map (some mb)) := cell_of_block h.blk 0
  have k1 : w.cell? ⟨c, 1, none⟩ = some (.map (some hb)) := cell_of_block h.blk 1
  have hl := h.lookM2 p hw
  have H := hid h
  unfold cheard
  unfold cmark at hl
  cases he : cfind S p with
  | none =>
    rw [he] at hl
    dsimp only [Option.map_none, Option.getD_none, Option.isSome_none] at hl
    have hcu := hid (show Cu w base c S from ⟨mb, hb, bl, H.out⟩)
    clear h he
    generalize bs [] = R at *
    go_enter Try.func13, Try.ntmps13
    go_wp2
    go_ret
    exact ⟨rfl, hcu.out, KC.refl _ _ _⟩
  | some e =>
    rw [he] at hl
    dsimp only [Option.map_some, Option.getD_some, Option.isSome_some] at hl
    have hcu := hid (show Cu w base c S from ⟨mb, hb, bl, H.out⟩)
    by_cases hm : e.2.1 = m
    · have hH := h.lookH p hw he
      have hS := h.lookS p he node hw2
      have hq : ((bs e.2.1).toList == (bs m).toList) = true := by rw [bs_beq]; simpa using hm
      by_cases hn : node ∈ e.2.2
      · have hno : ¬ (e.2.1 = m ∧ node ∉ e.2.2) := fun h => h.2 hn
        rw [decide_eq_true hn] at hS
        dsimp only
        rw [if_neg hno]
        clear h hno hn he hm
        generalize bs e.2.1 = R at *
        generalize bs m = M at *
        go_enter Try.func13, Try.ntmps13
        go_wp2
        go_ret
        exact ⟨rfl, hcu.out, KC.refl _ _ _⟩
      · rw [decide_eq_false hn] at hS
        dsimp only
        rw [if_pos ⟨hm, hn⟩]
        obtain ⟨hmem, hep⟩ := cfind_some he
        have Hset := hid (h.sets e hmem)
        rw [hep] at Hset
        have Hmp := hid (mput_tr e.2.2 node hn)
        have He := hid he
        clear h hn he hm hmem hep
        generalize bs e.2.1 = R at *
        generalize bs m = M at *
        go_enter Try.func13, Try.ntmps13
        go_wp2_with (at_mapUpdate; refine wpList_put Value.bool _ rfl _ _ _ 72 rfl 3 4 Try.underlying3 Try.underlying72 (bl p) (tr e.2.2) rfl Hset.out node hw2 true rfl rfl ?_; intro w1 hmap1 hg1 hs1; have Hmap1 := hid hmap1; have Hg1 := hid hg1; clear hmap1 hg1 hs1)
        go_ret
        obtain ⟨h1, h2⟩ := H.out.setH He.out Hg1.out (l := e.2.2 ++ [node]) (by rw [← Hmp.out]; exact Hmap1.out)
        exact ⟨rfl, ⟨mb, hb, bl, h1⟩, h2⟩
    · have hq : ((bs e.2.1).toList == (bs m).toList) = false := by rw [bs_beq]; simpa using hm
      have hno : ¬ (e.2.1 = m ∧ node ∉ e.2.2) := fun h => hm h.1
      dsimp only
      rw [if_neg hno]
      clear h hno he hm
      generalize bs e.2.1 = R at *
      generalize bs m = M at *
      go_enter Try.func13, Try.ntmps13
      go_wp2
      go_ret
      exact ⟨rfl, hcu.out, KC.refl _ _ _⟩
end Go.Proofs.Ytofengnbedebpaa
