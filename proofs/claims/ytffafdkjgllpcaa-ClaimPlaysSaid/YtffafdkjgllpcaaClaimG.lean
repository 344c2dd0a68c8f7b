import Derived.Test.YtffafdkjgllpcaaClaimF
namespace Go.Proofs.Ytffafdkjgllpcaa
open Go.RowKit Go.Maps

theorem count_won {c : CM} {node : Int} {yes : Bool} (h : c.owners.length / 2 + 1 ≤ (saidL (mput c.said node yes) true c.owners).length) : c.count node yes = { { c with said := mput c.said node yes } with state := 1 } := by
  simp [CM.count, h]
theorem count_lost {c : CM} {node : Int} {yes : Bool} (h : ¬ c.owners.length / 2 + 1 ≤ (saidL (mput c.said node yes) true c.owners).length) (h2 : c.owners.length - (saidL (mput c.said node yes) false c.owners).length < c.owners.length / 2 + 1) : c.count node yes = { { c with said := mput c.said node yes } with state := 2 } := by
  simp [CM.count, h, h2]
theorem count_open {c : CM} {node : Int} {yes : Bool} (h : ¬ c.owners.length / 2 + 1 ≤ (saidL (mput c.said node yes) true c.owners).length) (h2 : ¬ c.owners.length - (saidL (mput c.said node yes) false c.owners).length < c.owners.length / 2 + 1) : c.count node yes = { c with said := mput c.said node yes } := by
  simp [CM.count, h, h2]

/-- What holds in the world of a region that asks the claim. -/
def RS (b bm : Nat) (vo : Value) (c : CM) (w0 W : World) : Prop := ClaimAt W b bm vo c ∧ Kept (fun k => k = b ∨ k = bm) w0 W
theorem RS.cell {b bm : Nat} {vo : Value} {c : CM} {w0 W : World} (h : RS b bm vo c w0 W) : W.cell? ⟨b, 3, none⟩ = some vo ∧ RS b bm vo c w0 W := ⟨cell_of_block h.1.blk 3, h⟩
theorem RS.at_ {b bm : Nat} {vo : Value} {c : CM} {w0 W : World} (h : W.cell? ⟨b, 3, none⟩ = some vo ∧ RS b bm vo c w0 W) : ClaimAt W b bm vo c := h.2.1
theorem RS.drew {b bm : Nat} {vo : Value} {c : CM} {w0 W : World} (h : RS b bm vo c w0 W) : RS b bm vo c w0 W.drew := ⟨h.1.pure (Below.refl _ _).drew, h.2.drew⟩
theorem RS.pure {b bm : Nat} {vo : Value} {c : CM} {w0 W W' : World} (hp : Pure W W') (h : W.cell? ⟨b, 3, none⟩ = some vo ∧ RS b bm vo c w0 W) : RS b bm vo c w0 W' := ⟨h.2.1.pure hp, h.2.2.trans hp.kept⟩

set_option maxHeartbeats 2000000 in
theorem answer_yes (b bm : Nat) (vo : Value) (c : CM) (node : Int) (yes : Bool) (w : World) (h : ClaimAt w b bm vo c) (hwf : (Lit.int .i64 node).wf = true) (hyes : c.counts node = true) (hl : c.owners.length ≤ 1000000) (hwfo : AllWf c.owners) :
    Calls Try.prog 10 #[.pointer (some ⟨b, 0, none⟩), .int .i64 node, .bool yes] w fun e w' => e = .returned (.bool true) ∧ ClaimAt w' b bm vo (c.count node yes) ∧ Kept (fun k => k = b ∨ k = bm) w w' := by
  obtain ⟨h1, h2, h3⟩ : c.state = 0 ∧ node ∈ c.owners ∧ mlook c.said node = none := by
    simp only [CM.counts, Bool.and_eq_true, decide_eq_true_eq, Option.isNone_iff_eq_none] at hyes
    exact ⟨hyes.1.1, hyes.1.2, hyes.2⟩
  have hst := state_yes b bm vo c w h
  have hcon := contains_any vo c.owners node w h.own
  rw [h1] at hst
  rw [decide_eq_true h2] at hcon
  have k3 : w.cell? ⟨b, 3, none⟩ = some vo := cell_of_block h.blk 3
  have k7 : w.cell? ⟨b, 7, none⟩ = some (.map (some bm)) := cell_of_block h.blk 7
  have hlook := h.map.look (P := Try.prog) Try.underlying3 Try.underlying50 (zeroBool _) node hwf true
  simp only [if_true, h3, Option.map_none, Option.getD_none, Option.isSome_none] at hlook
  obtain ⟨a, cap, rfl⟩ := h.own.shape
  have Hst := hid hst
  have Hcon := hid hcon
  have Hmap := hid h.map
  have HA := hid h
  have hbw := lt_of_block h.blk
  have hmaj := fun W => majority c.owners.length W (by omega) (by omega)
  have Hmaj := hid hmaj
  clear h hst hcon h1 h2 h3 hyes hmaj
  go_enter Try.func10, Try.ntmps10
  go_wp2_with (first
    | (go_at_call 11; refine Hst.out.mono ?_; rintro e w' ⟨rfl, rfl⟩)
    | (go_at_call 30; refine Hcon.out.mono ?_; rintro e w' ⟨rfl, rfl⟩)
    | (at_mapUpdate; refine wpList_put Value.bool _ rfl _ _ _ 50 rfl 3 4 Try.underlying3 Try.underlying50 bm c.said rfl Hmap.out node hwf yes rfl rfl ?_; intro w1 hmap1 hg1 hs1; have HA1 := hid (HA.out.put hmap1 hg1); have q3 : w1.cell? ⟨b, 3, none⟩ = some (.slice a c.owners.length cap) := cell_of_block HA1.out.blk 3; have Hg1 := hid hg1; have Hs1 := hid hs1; clear hmap1 hg1 hs1 hlook k3 k7)
    | (go_at_call 31; refine (Hmaj.out _).mono ?_; rintro e w' ⟨rfl, rfl⟩))
  refine (who_any b bm _ _ true w1 HA1.out hl hwfo).mono ?_
  rintro e w2 ⟨v2, rfl, hown2, hp2⟩
  dsimp only at hown2
  rw [srt_len] at hown2
  have hnT := saidL_len (mput c.said node yes) true c.owners
  obtain ⟨a2, cap2, rfl⟩ := (Row.of_own hown2).shape
  have hA2 := HA1.out.pure hp2
  have hk2 : Kept (fun k => k = b ∨ k = bm) w w2 := ((Kept.refl _ _).grown Hg1.out (fun k hk _ => .inr (by simpa using hk.symm))).trans hp2.kept
  have HA2 := hid hA2
  have Hk2 := hid hk2
  have r3 : w2.cell? ⟨b, 3, none⟩ = some (.slice a c.owners.length cap) := cell_of_block hA2.blk 3
  have r8 : w2.cell? ⟨b, 8, none⟩ = some (.int .i64 c.state) := cell_of_block hA2.blk 8
  have f8 : w2.frozen? ⟨b, 8, none⟩ = false := free_of_block hA2.blk 8
  clear hown2 hp2 q3 HA1 Hg1 Hs1 hA2 hk2
  by_cases hT : c.owners.length / 2 + 1 ≤ (saidL (mput c.said node yes) true c.owners).length
  · have Hc := hid (count_won hT)
    generalize (saidL (mput c.said node yes) true c.owners).length = nT at *
    clear r3
    go_wp2
    go_ret
    exact ⟨rfl, by rw [Hc.out]; exact HA2.out.setState 1, Hk2.out.setCell (fun _ => .inl rfl) _⟩
  · by_cases hF : c.owners.length - (saidL (mput c.said node yes) false c.owners).length < c.owners.length / 2 + 1
    · have Hc := hid (count_lost hT hF)
      generalize hnTe : (saidL (mput c.said node yes) true c.owners).length = nT at *
      clear hnTe
      have hnF := saidL_len (mput c.said node yes) false c.owners
      generalize hnFe : (saidL (mput c.said node yes) false c.owners).length = nF at *
      have HnF := hid hnFe
      clear hnFe
      have HRS := hid (show RS b bm (.slice a c.owners.length cap) { c with said := mput c.said node yes } w w2 from ⟨HA2.out, Hk2.out⟩)
      go_wp2_with fail
      go_region_held3 (fun W => W.cell? ⟨b, 3, none⟩ = some (.slice a c.owners.length cap) ∧ RS b bm (.slice a c.owners.length cap) { c with said := mput c.said node yes } w W)
        (first | exact HRS.out.drew.cell | exact (RS.pure hp3 (by assumption)).cell)
        (first | (go_at_call 32; refine (who_any b bm (.slice a c.owners.length cap) { c with said := mput c.said node yes } false _ ?_ hl hwfo).mono ?_; exact RS.at_ (w0 := w) (by assumption); rintro e w3 ⟨v3, rfl, hown3, hp3⟩; dsimp only at hown3; rw [srt_len, HnF.out] at hown3; obtain ⟨a3, cap3, rfl⟩ := (Row.of_own hown3).shape))
      have hx : RS b bm (.slice a c.owners.length cap) { c with said := mput c.said node yes } w w3 := (show w3.cell? ⟨b, 3, none⟩ = some (.slice a c.owners.length cap) ∧ _ from by assumption).2
      have s8 : w3.cell? ⟨b, 8, none⟩ = some (.int .i64 c.state) := cell_of_block hx.1.blk 8
      have t8 : w3.frozen? ⟨b, 8, none⟩ = false := free_of_block hx.1.blk 8
      have Hx := hid hx
      have hwrap : IntKind.i64.wrap ((c.owners.length : Int) - nF) = (c.owners.length : Int) - nF := IntWalk.i64_in _ (by omega)
      clear hx r3 r8 f8
      go_wp2
      go_ret
      exact ⟨rfl, by rw [Hc.out]; exact Hx.out.1.setState 2, Hx.out.2.setCell (fun _ => .inl rfl) _⟩
    · have Hc := hid (count_open hT hF)
      generalize hnTe : (saidL (mput c.said node yes) true c.owners).length = nT at *
      clear hnTe
      have hnF := saidL_len (mput c.said node yes) false c.owners
      generalize hnFe : (saidL (mput c.said node yes) false c.owners).length = nF at *
      have HnF := hid hnFe
      clear hnFe
      have HRS := hid (show RS b bm (.slice a c.owners.length cap) { c with said := mput c.said node yes } w w2 from ⟨HA2.out, Hk2.out⟩)
      go_wp2_with fail
      go_region_held3 (fun W => W.cell? ⟨b, 3, none⟩ = some (.slice a c.owners.length cap) ∧ RS b bm (.slice a c.owners.length cap) { c with said := mput c.said node yes } w W)
        (first | exact HRS.out.drew.cell | exact (RS.pure hp3 (by assumption)).cell)
        (first | (go_at_call 32; refine (who_any b bm (.slice a c.owners.length cap) { c with said := mput c.said node yes } false _ ?_ hl hwfo).mono ?_; exact RS.at_ (w0 := w) (by assumption); rintro e w3 ⟨v3, rfl, hown3, hp3⟩; dsimp only at hown3; rw [srt_len, HnF.out] at hown3; obtain ⟨a3, cap3, rfl⟩ := (Row.of_own hown3).shape))
      have hx : RS b bm (.slice a c.owners.length cap) { c with said := mput c.said node yes } w w3 := (show w3.cell? ⟨b, 3, none⟩ = some (.slice a c.owners.length cap) ∧ _ from by assumption).2
      have s8 : w3.cell? ⟨b, 8, none⟩ = some (.int .i64 c.state) := cell_of_block hx.1.blk 8
      have t8 : w3.frozen? ⟨b, 8, none⟩ = false := free_of_block hx.1.blk 8
      have Hx := hid hx
      have hwrap : IntKind.i64.wrap ((c.owners.length : Int) - nF) = (c.owners.length : Int) - nF := IntWalk.i64_in _ (by omega)
      clear hx r3 r8 f8
      go_wp2
      go_ret
      exact ⟨rfl, by rw [Hc.out]; exact Hx.out.1, Hx.out.2⟩

theorem answer_any (b bm : Nat) (vo : Value) (c : CM) (node : Int) (yes : Bool) (w : World) (h : ClaimAt w b bm vo c) (hwf : (Lit.int .i64 node).wf = true) (hl : c.owners.length ≤ 1000000) (hwfo : AllWf c.owners) :
    Calls Try.prog 10 #[.pointer (some ⟨b, 0, none⟩), .int .i64 node, .bool yes] w fun e w' => e = .returned (.bool (c.counts node)) ∧ ClaimAt w' b bm vo (c.answer node yes) ∧ Kept (fun k => k = b ∨ k = bm) w w' := by
  unfold CM.answer
  cases hc : c.counts node with
  | false =>
    refine (answer_no b bm vo c node yes w h hwf hc).mono ?_
    rintro e w' ⟨rfl, rfl⟩
    exact ⟨rfl, h, Kept.refl _ _⟩
  | true => exact answer_yes b bm vo c node yes w h hwf hc hl hwfo
end Go.Proofs.Ytffafdkjgllpcaa
