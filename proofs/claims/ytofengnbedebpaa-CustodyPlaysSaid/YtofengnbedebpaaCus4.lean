/- custody: Keep. -/
import Derived.Test.YtofengnbedebpaaCus3
namespace Go.Proofs.Ytofengnbedebpaa
open Go.RowKit Go.Maps Go.MapKept

abbrev g0 : Bag := ([], [], [])
theorem bag0 (W : World) : BagAt W (.agg #[.slice none 0 0, .slice none 0 0, .slice none 0 0]) g0 := ⟨_, _, _, rfl, Row.nil _ _, Row.nil _ _, Row.nil _ _⟩

theorem CuAt.cne {w : World} {base c : Nat} {S : CuS} {mb hb : Nat} {bl : Int → Nat} (h : CuAt w base c S mb hb bl) : c ≠ mb ∧ c ≠ hb := by
  constructor
  · intro e
    obtain ⟨es, cl, hx⟩ := h.marks.isMap
    rw [← e, h.blk] at hx; cases hx
  · intro e
    obtain ⟨es, cl, hx⟩ := h.heard.isMap
    rw [← e, h.blk] at hx; cases hx
theorem CuAt.clr {w : World} {base c : Nat} {S : CuS} {mb hb : Nat} {bl : Int → Nat} (h : CuAt w base c S mb hb bl) {p : Int} {e : CEnt} (he : cfind S p = some e) :
    ∃ w', (Builtin.clear_ #[72] 0 #[.map (some (bl p))]).run Try.prog w = .ok (.tuple #[]) w' ∧ CuAt w' base c (cset S p e.2.1 []) mb hb bl ∧ KC base c w w' := by
  obtain ⟨hmem, hp⟩ := cfind_some he
  have hs := h.sets e hmem
  rw [hp] at hs
  obtain ⟨w', hr, hm, hg, _⟩ := hs.clear (P := Try.prog) Try.underlying72 0
  obtain ⟨h1, h2⟩ := h.setH he hg (l := []) hm
  exact ⟨w', hr, h1, h2⟩

set_option maxRecDepth 8000 in
set_option maxHeartbeats 2000000 in
theorem cukeep_any (base c : Nat) (S : CuS) (p : Int) (v : Value) (g : Bag) (w : World) (h : Cu w base c S) (hat : BagAt w v g) (hsm : SmallG g) (hw : (Lit.int .i64 p).wf = true) :
    Calls Try.prog 12 #[.pointer (some ⟨c, 0, none⟩), .int .i64 p, v] w fun e w' => e = .returned (.bool (ckeep S p (bagB g) (decide (g = g0))).2) ∧ Cu w' base c (ckeep S p (bagB g) (decide (g = g0))).1 ∧ KC base c w w' := by
  obtain ⟨mb, hb, bl, h⟩ := h
  have hbytes0 := fun W (hW : Pure w W) => mbbytes_any v g W (hat.pure hW) hsm
  have hsame0 := fun W (hW : Pure w W) => mbsame_any v (.agg #[.slice none 0 0, .slice none 0 0, .slice none 0 0]) g g0 W (hat.pure hW) (bag0 W)
  obtain ⟨v0, v1, v2, rfl, h0, h1, h2⟩ := hat
  obtain ⟨a0, c0, rfl⟩ := h0.shape
  obtain ⟨a1, c1, rfl⟩ := h1.shape
  obtain ⟨a2, c2, rfl⟩ := h2.shape
  obtain ⟨wz, hwz⟩ : ∃ wz, wz = w.alloc (.cells #[.slice a0 g.1.length c0, .slice a1 g.2.1.length c1, .slice a2 g.2.2.length c2] 31) := ⟨_, rfl⟩
  have Hwz := hid (show Pure w wz from by rw [hwz]; exact (Below.refl _ _).alloc (Nat.le_refl _) _)
  have bx : wz.heap[w.heap.size]? = some (.cells #[.slice a0 g.1.length c0, .slice a1 g.2.1.length c1, .slice a2 g.2.2.length c2] 31 (0, 0)) := by rw [hwz]; exact block_alloc_new _ _
  have hbox : Hid (∀ W, Pure wz W → W.cell? ⟨w.heap.size, 0, none⟩ = some (.slice a0 g.1.length c0) ∧ W.cell? ⟨w.heap.size, 1, none⟩ = some (.slice a1 g.2.1.length c1) ∧ W.cell? ⟨w.heap.size, 2, none⟩ = some (.slice a2 g.2.2.length c2)) := fun W hW => by
    have e0 := (hW.block _ (lt_of_block bx)).trans bx
    exact ⟨cell_of_block e0 0, cell_of_block e0 1, cell_of_block e0 2⟩
  have hbytes := hid (fun W (hW : Pure wz W) => hbytes0 W (Hwz.out.then_ hW))
  have hsame := hid (fun W (hW : Pure wz W) => hsame0 W (Hwz.out.then_ hW))
  have hcell : Hid (∀ W, Pure w W → W.cell? ⟨c, 0, none⟩ = some (.map (some mb)) ∧ W.cell? ⟨c, 1, none⟩ = some (.map (some hb))) := fun W hW => by
    have e0 := (h.pure hW).blk
    exact ⟨cell_of_block e0 0, cell_of_block e0 1⟩
  have hn := run_eql_map_nil (P := Try.prog) w 58 3 9 (some mb) Try.underlying58
  have hl := (h.pure Hwz.out).lookM2 p hw
  have H := hid h
  unfold ckeep
  unfold cmark at hl
  have hmm := @run_makeMap Try.prog
  have hcu := hid (fun W (hW : Pure w W) => (show Cu W base c S from ⟨mb, hb, bl, H.out.pure hW⟩))
  clear hbytes0 hsame0 bx h0 h1 h2 h
  cases he : cfind S p with
  | none =>
    rw [he] at hl
    dsimp only [Option.map_none, Option.getD_none, Option.isSome_none] at hl ⊢
    have He := hid he
    clear he
    generalize bs [] = R at *
    generalize hmark : bagB g = m at *
    have Hmark := hid hmark
    clear hmark
    generalize hE : decide (g = g0) = E at *
    clear hE
    have hbm := hid (show mput (S.map cmk) p m = _ from mput_cmk S p m [])
    obtain ⟨k0, k1⟩ := hcell.out wz Hwz.out
    obtain ⟨f0, f1, f2⟩ := hbox.out wz (Below.refl _ _)
    have Hz := hid hwz
    rw [hwz] at k0 k1 f0 f1 f2 hl
    clear hwz
    go_enter Try.func12, Try.ntmps12
    go_wp2_with fail
    rw [← Hz.out]
    refine (hbytes.out wz (Below.refl _ _)).mono ?_
    rintro e w1 ⟨rfl, hp1⟩
    have Hp1 := hid hp1
    clear k0 k1 f0 f1 f2 hp1 hl
    obtain ⟨f0, f1, f2⟩ := hbox.out w1 Hp1.out
    go_wp2_with fail
    refine (hsame.out w1 Hp1.out).mono ?_
    rintro e w2 ⟨rfl, hp2⟩
    have Hp2 := hid (Hwz.out.then_ (Hp1.out.then_ hp2))
    clear f0 f1 f2 hp2
    obtain ⟨k0, k1⟩ := hcell.out w2 Hp2.out
    cases E with
    | true =>
      go_wp2
      go_ret
      exact ⟨rfl, hcu.out w2 Hp2.out, KC.pure Hp2.out⟩
    | false =>
      have H2 := hid (H.out.pure Hp2.out)
      have hn2 := run_eql_map_nil (P := Try.prog) w2 58 3 9 (some mb) Try.underlying58
      clear hn
      go_wp2_with (at_mapUpdate; refine wpList_put strV _ rfl _ _ _ 58 rfl 3 9 Try.underlying3 Try.underlying58 mb (S.map cmk) rfl H2.out.marks p hw m rfl rfl ?_)
      intro w3 hm3 hg3 hs3
      obtain ⟨cn1, cn2⟩ := H2.out.cne
      have hb3 : w3.heap[c]? = some (.cells #[.map (some mb), .map (some hb)] 61 (0, 0)) := (hg3.block c (lt_of_block H2.out.blk) (fun e => cn1 (by injection e))).trans H2.out.blk
      have k3 : w3.cell? ⟨c, 1, none⟩ = some (.map (some hb)) := cell_of_block hb3 1
      have hh3 : IMap mapV (w3.alloc (.map #[] 0)) hb (S.map (cbl bl)) := (H2.out.heard.same (hg3.block hb H2.out.heard.lt (fun e => H2.out.ne (by injection e with e; exact e.symm)))).pure ((Below.refl _ _).alloc (Nat.le_refl _) _)
      have Hm3 := hid hm3
      have Hg3 := hid hg3
      have Hh3 := hid hh3
      have Hb3 := hid hb3
      clear hm3 hg3 hs3 hb3 hh3 cn1 cn2 hn2 k0 k1
      go_wp2_with (at_mapUpdate; refine wpList_put mapV _ rfl _ _ _ 59 rfl 3 72 Try.underlying3 Try.underlying59 hb (S.map (cbl bl)) rfl Hh3.out p hw w3.heap.size rfl rfl ?_)
      intro w4 hm4 hg4 hs4
      obtain ⟨H4', hkc4⟩ := H2.out.new (cfind_none He.out) Hg3.out Hm3.out hg4 hm4
      have he4 : cfind (cset S p m []) p = some (p, m, []) := by rw [cset_find, if_pos rfl]
      have Hkc4 := hid ((KC.pure (base := base) (c := c) Hp2.out).trans hkc4)
      have H4 := hid H4'
      clear hm4 hg4 hs4 hkc4 H4' k3 hmm
      generalize (fun q => if q = p then w3.heap.size else bl q) = bl4 at *
      have k4 : w4.cell? ⟨c, 1, none⟩ = some (.map (some hb)) := cell_of_block H4.out.blk 1
      have hl4 := H4.out.lookH p hw he4
      obtain ⟨w5, hclr, hcu5, hkc5⟩ := H4.out.clr he4
      rw [cset_cset] at hcu5
      have Hfin := hid (And.intro (show Cu w5 base c (cset S p m []) from ⟨_, _, _, hcu5⟩) (Hkc4.out.trans hkc5))
      clear he4 hcu5 hkc5
      go_wp2
      go_ret
      exact ⟨rfl, Hfin.out⟩
  | some e =>
    rw [he] at hl
    dsimp only [Option.map_some, Option.getD_some, Option.isSome_some] at hl ⊢
    have He := hid he
    clear he
    generalize hmark : bagB g = m at *
    have Hmark := hid hmark
    clear hmark
    generalize hE : decide (g = g0) = E at *
    clear hE hsame
    obtain ⟨k0, k1⟩ := hcell.out wz Hwz.out
    obtain ⟨f0, f1, f2⟩ := hbox.out wz (Below.refl _ _)
    have Hz := hid hwz
    rw [hwz] at k0 k1 f0 f1 f2 hl
    clear hwz
    by_cases hm : e.2.1 = m
    · have hq : ((bs e.2.1).toList == (bs m).toList) = true := by rw [bs_beq]; simpa using hm
      rw [if_pos hm]
      clear hm
      generalize bs e.2.1 = R at *
      generalize bs m = M at *
      go_enter Try.func12, Try.ntmps12
      go_wp2_with fail
      rw [← Hz.out]
      refine (hbytes.out wz (Below.refl _ _)).mono ?_
      rintro e w1 ⟨rfl, hp1⟩
      have Hp1 := hid (Hwz.out.then_ hp1)
      clear k0 k1 f0 f1 f2 hp1 hl
      go_wp2
      go_ret
      exact ⟨rfl, hcu.out w1 Hp1.out, KC.pure Hp1.out⟩
    · have hq : ((bs e.2.1).toList == (bs m).toList) = false := by rw [bs_beq]; simpa using hm
      rw [if_neg hm]
      clear hm
      generalize bs e.2.1 = R at *
      generalize hM : bs m = M at *
      have HM := hid hM
      clear hM
      go_enter Try.func12, Try.ntmps12
      go_wp2_with fail
      rw [← Hz.out]
      refine (hbytes.out wz (Below.refl _ _)).mono ?_
      rintro e1 w2 ⟨rfl, hp1⟩
      have Hp2 := hid (Hwz.out.then_ hp1)
      clear k0 k1 f0 f1 f2 hp1 hl
      obtain ⟨k0, k1⟩ := hcell.out w2 Hp2.out
      have H2 := hid (H.out.pure Hp2.out)
      have hn2 := run_eql_map_nil (P := Try.prog) w2 58 3 9 (some mb) Try.underlying58
      clear hn
      go_wp2_with (at_mapUpdate; refine wpList_put strV _ rfl _ _ _ 58 rfl 3 9 Try.underlying3 Try.underlying58 mb (S.map cmk) rfl H2.out.marks p hw m rfl (congrArg Value.string HM.out.symm) ?_)
      intro w4 hm4 hg4 hs4
      obtain ⟨H4', hkc4⟩ := H2.out.setM He.out hg4 hm4
      have he4 : cfind (cset S p m e.2.2) p = some (p, m, e.2.2) := by rw [cset_find, if_pos rfl]
      have Hkc4 := hid ((KC.pure (base := base) (c := c) Hp2.out).trans hkc4)
      have H4 := hid H4'
      clear hm4 hg4 hs4 hkc4 H4' hmm k0 k1 hn2
      have k4 : w4.cell? ⟨c, 1, none⟩ = some (.map (some hb)) := cell_of_block H4.out.blk 1
      have hl4 := H4.out.lookH p hw he4
      obtain ⟨w5, hclr, hcu5, hkc5⟩ := H4.out.clr he4
      rw [cset_cset] at hcu5
      have Hfin := hid (And.intro (show Cu w5 base c (cset S p m []) from ⟨_, _, _, hcu5⟩) (Hkc4.out.trans hkc5))
      clear he4 hcu5 hkc5
      go_wp2
      go_ret
      exact ⟨rfl, Hfin.out⟩
end Go.Proofs.Ytofengnbedebpaa
