/- Plan.few; the program's claim beside the document's: each call of either. -/
import Derived.Test.YtffafdkjgllpcaaPlaysF
import Derived.Test.YtffafdkjgllpcaaPlaysG
import Derived.Test.YtffafdkjgllpcaaStaysC
import Derived.Test.YtffafdkjgllpcaaPlaysW
namespace Go.Proofs.Ytffafdkjgllpcaa
open Go.RowKit Go.Maps

set_option maxHeartbeats 1000000 in
theorem yes_any (b bm : Nat) (vo : Value) (c : CM) (w : World) (h : ClaimAt w b bm vo c) (hl : c.owners.length ≤ 1000000) (hwf : AllWf c.owners) :
    Calls Try.prog 12 #[.pointer (some ⟨b, 0, none⟩)] w fun e w' => ∃ v', e = .returned v' ∧ Ints w' v' (srt (saidL c.said true c.owners)) ∧ Pure w w' := by
  have hm := hid (made_yes b bm vo c w h)
  have hw := hid (who_any b bm vo c true w h hl hwf)
  clear h
  go_enter Try.func12, Try.ntmps12
  go_wp2_with fail
  refine hm.out.mono ?_
  rintro e w' ⟨rfl, rfl⟩
  go_wp2_with fail
  refine hw.out.mono ?_
  rintro e w1 ⟨v1, rfl, hown, hp⟩
  have Hr := hid (Row.of_own hown)
  obtain ⟨a1, c1, rfl⟩ := (show Ints w1 v1 _ from Row.of_own hown).shape
  have Hp := hid hp
  clear hown hp
  go_wp2
  go_ret
  exact ⟨_, rfl, Hr.out, Hp.out⟩

/-- The claim and the document's, side by side. -/
structure Two (b bm : Nat) (vo : Value) (d ba bs : Nat) (uo : Value) (w0 : World) (c : CM) (w : World) : Prop where
  l : ClaimAt w b bm vo c
  r : RefC w d ba bs uo c
  kept : Kept (fun k => k = b ∨ k = bm ∨ k = d ∨ k = ba ∨ k = bs) w0 w
  n : ∀ k, k = b ∨ k = bm → ¬ (k = d ∨ k = ba ∨ k = bs)
  nv : ∀ k, vo.rb = some k → ¬ (k = d ∨ k = ba ∨ k = bs)
  nu : ∀ k, uo.rb = some k → ¬ (k = b ∨ k = bm)
  ol : c.owners.length ≤ 1000000
  owf : AllWf c.owners
  bd : c.Bd
section
variable {b bm : Nat} {vo : Value} {d ba bs : Nat} {uo : Value} {w0 w w' : World} {c : CM}
theorem Two.pure (h : Two b bm vo d ba bs uo w0 c w) (hp : Pure w w') : Two b bm vo d ba bs uo w0 c w' := ⟨h.l.pure hp, h.r.pure hp, h.kept.trans (Pure.kept hp), h.n, h.nv, h.nu, h.ol, h.owf, h.bd⟩
theorem Two.rown (h : Two b bm vo d ba bs uo w0 c w) : Ints w uo c.owners := by
  obtain ⟨r, h1, h2⟩ := h.r; rw [← h2.owners]; exact h1.own
theorem Two.cell (h : Two b bm vo d ba bs uo w0 c w) : w.cell? ⟨d, 6, none⟩ = some uo ∧ Two b bm vo d ba bs uo w0 c w := by
  obtain ⟨r, h1, h2⟩ := h.r; exact ⟨cell_of_block h1.blk 6, h⟩
theorem Two.owners (h : Two b bm vo d ba bs uo w0 c w) :
    Calls Try.prog 17 #[.pointer (some ⟨b, 0, none⟩)] w fun e w' => ∃ v', e = .returned v' ∧ Ints w' v' c.owners ∧ Two b bm vo d ba bs uo w0 c w' :=
  (owners_any b bm vo c w h.l h.ol).mono fun _ _ ⟨v', h1, h2, h3⟩ => ⟨v', h1, h2, h.pure h3⟩
theorem Two.yes (h : Two b bm vo d ba bs uo w0 c w) :
    Calls Try.prog 12 #[.pointer (some ⟨b, 0, none⟩)] w fun e w' => ∃ v', e = .returned v' ∧ Ints w' v' (srt (saidL c.said true c.owners)) ∧ Two b bm vo d ba bs uo w0 c w' :=
  (yes_any b bm vo c w h.l h.ol h.owf).mono fun _ _ ⟨v', h1, h2, h3⟩ => ⟨v', h1, h2, h.pure h3⟩
theorem Two.ryes (h : Two b bm vo d ba bs uo w0 c w) :
    Calls Try.prog 24 #[.pointer (some ⟨d, 0, none⟩)] w fun e w' => ∃ v', e = .returned v' ∧ Ints w' v' (srt (saidL c.said true c.owners)) ∧ Two b bm vo d ba bs uo w0 c w' ∧ Pure w w' :=
  (ryes_c d ba bs uo c w h.r).mono fun _ _ ⟨v', h1, h2, h3⟩ => ⟨v', h1, h2, h.pure h3, h3⟩
theorem Two.until (h : Two b bm vo d ba bs uo w0 c w) (v : Int) (hv : c.start + c.term = v) :
    Calls Try.prog 18 #[.pointer (some ⟨b, 0, none⟩)] w fun e w' => e = .returned (.int .i64 v) ∧ Two b bm vo d ba bs uo w0 c w' := by
  subst hv; exact (until_any b bm vo c w h.l h.bd).mono fun _ _ ⟨h1, n, h2⟩ => ⟨h1, h2 ▸ h.pure (pure_drewN _ _)⟩
theorem Two.over (h : Two b bm vo d ba bs uo w0 c w) (v : Int) (hv : c.start + c.term - 2 * c.skew = v) :
    Calls Try.prog 19 #[.pointer (some ⟨b, 0, none⟩)] w fun e w' => e = .returned (.int .i64 v) ∧ Two b bm vo d ba bs uo w0 c w' := by
  subst hv; exact (over_any b bm vo c w h.l h.bd).mono fun _ _ ⟨h1, n, h2⟩ => ⟨h1, h2 ▸ h.pure (pure_drewN _ _)⟩
theorem Two.dot (h : Two b bm vo d ba bs uo w0 c w) (d1 d2 : Int) (h1 : c.d1 = d1) (h2 : c.d2 = d2) :
    Calls Try.prog 20 #[.pointer (some ⟨b, 0, none⟩)] w fun e w' => e = .returned (.agg #[.int .i64 d1, .int .i64 d2]) ∧ Two b bm vo d ba bs uo w0 c w' := by
  subst h1; subst h2; exact (dot_any b bm vo c w h.l).mono fun _ _ ⟨h1, h2⟩ => ⟨h1, h.pure h2⟩
theorem Two.receipt (h : Two b bm vo d ba bs uo w0 c w) (v : Int) (hv : c.receipt = v) :
    Calls Try.prog 21 #[.pointer (some ⟨b, 0, none⟩)] w fun e w' => e = .returned (.int .i64 v) ∧ Two b bm vo d ba bs uo w0 c w' := by
  subst hv; exact (receipt_any b bm vo c w h.l).mono fun _ _ ⟨h1, h2⟩ => ⟨h1, h2 ▸ h⟩
theorem Two.state (h : Two b bm vo d ba bs uo w0 c w) (v : Int) (hv : c.state = v) :
    Calls Try.prog 11 #[.pointer (some ⟨b, 0, none⟩)] w fun e w' => e = .returned (.int .i64 v) ∧ Two b bm vo d ba bs uo w0 c w' := by
  subst hv; exact (state_yes b bm vo c w h.l).mono fun _ _ ⟨h1, h2⟩ => ⟨h1, h2 ▸ h⟩
theorem Two.rstate (h : Two b bm vo d ba bs uo w0 c w) (v : Int) (hv : c.state = v) :
    Calls Try.prog 25 #[.pointer (some ⟨d, 0, none⟩)] w fun e w' => e = .returned (.int .i64 v) ∧ Two b bm vo d ba bs uo w0 c w' := by
  subst hv; exact (rstate_c d ba bs uo c w h.r).mono fun _ _ ⟨h1, h2⟩ => ⟨h1, h2 ▸ h⟩
theorem Two.valid (h : Two b bm vo d ba bs uo w0 c w) (now : Int) (v : Bool) (hv : (decide (c.state = 1) && decide (now < c.start + c.term - 2 * c.skew)) = v) :
    Calls Try.prog 26 #[.pointer (some ⟨b, 0, none⟩), .int .i64 now] w fun e w' => e = .returned (.bool v) ∧ Two b bm vo d ba bs uo w0 c w' := by
  subst hv; exact (valid_any b bm vo c now w h.l h.bd).mono fun _ _ ⟨h1, n, h2⟩ => ⟨h1, h2 ▸ h.pure (pure_drewN _ _)⟩
theorem Two.rvalid (h : Two b bm vo d ba bs uo w0 c w) (now : Int) (v : Bool) (hv : (decide (c.state = 1) && decide (now < c.start + c.term - 2 * c.skew)) = v) :
    Calls Try.prog 27 #[.pointer (some ⟨d, 0, none⟩), .int .i64 now] w fun e w' => e = .returned (.bool v) ∧ Two b bm vo d ba bs uo w0 c w' := by
  subst hv; exact (rvalid_c d ba bs uo c now w h.r h.bd).mono fun _ _ ⟨h1, n, h2⟩ => ⟨h1, h2 ▸ h.pure (pure_drewN _ _)⟩
/-- Behind the claim's call, ahead of the document's. -/
structure Half (b bm : Nat) (vo : Value) (d ba bs : Nat) (uo : Value) (w0 : World) (c c' : CM) (w : World) : Prop where
  l : ClaimAt w b bm vo c'
  r : RefC w d ba bs uo c
  kept : Kept (fun k => k = b ∨ k = bm ∨ k = d ∨ k = ba ∨ k = bs) w0 w
theorem Two.half (h : Two b bm vo d ba bs uo w0 c w) {c' : CM} (hl : ClaimAt w' b bm vo c') (hk : Kept (fun k => k = b ∨ k = bm) w w') : Half b bm vo d ba bs uo w0 c c' w' :=
  ⟨hl, h.r.kept hk (fun e => h.n d e (.inl rfl)) (fun e => h.n ba e (.inr (.inl rfl))) (fun e => h.n bs e (.inr (.inr rfl))) h.nu, h.kept.trans (hk.mono fun _ _ h => by omega)⟩
theorem Half.two (h0 : Two b bm vo d ba bs uo w0 c w) {w1 : World} {c' : CM} (h : Half b bm vo d ba bs uo w0 c c' w1) (hr : RefC w' d ba bs uo c') (hk : Kept (fun k => k = d ∨ k = ba ∨ k = bs) w1 w') (ho : c'.owners = c.owners) (hb : c'.Bd) : Two b bm vo d ba bs uo w0 c' w' :=
  ⟨h.l.kept hk (fun e => h0.n b (.inl rfl) e) (fun e => h0.n bm (.inr rfl) e) h0.nv, hr, h.kept.trans (hk.mono fun _ _ h => by omega), h0.n, h0.nv, h0.nu, by rw [ho]; exact h0.ol, by rw [ho]; exact h0.owf, hb⟩
theorem ended_bd {c : CM} (h : c.Bd) : c.ended.Bd := by
  unfold CM.ended; split
  · exact ⟨h.s0, h.s1, h.t0, h.t1, h.k0, h.k1⟩
  · split
    · exact ⟨h.s0, h.s1, h.t0, h.t1, h.k0, h.k1⟩
    · exact h
theorem answer_bd {c : CM} (h : c.Bd) (x : Int) (y : Bool) : (c.answer x y).Bd := by
  unfold CM.answer CM.count; split
  · exact ⟨h.s0, h.s1, h.t0, h.t1, h.k0, h.k1⟩
  · exact h
theorem Two.end_ (h : Two b bm vo d ba bs uo w0 c w) :
    Calls Try.prog 13 #[.pointer (some ⟨b, 0, none⟩)] w fun e w' => e = .returned (.tuple #[]) ∧ Half b bm vo d ba bs uo w0 c c.ended w' :=
  (end_any b bm vo c w h.l).mono fun _ _ ⟨h1, h2, h3⟩ => ⟨h1, h.half h2 h3⟩
theorem Half.rend (h0 : Two b bm vo d ba bs uo w0 c w) {w1 : World} (h : Half b bm vo d ba bs uo w0 c c.ended w1) :
    Calls Try.prog 22 #[.pointer (some ⟨d, 0, none⟩)] w1 fun e w' => e = .returned (.tuple #[]) ∧ Two b bm vo d ba bs uo w0 c.ended w' :=
  (rend_c d ba bs uo c w1 h.r).mono fun _ _ ⟨h1, h2, h3⟩ => ⟨h1, Half.two h0 h h2 h3 (ended_owners c) (ended_bd h0.bd)⟩
theorem Two.answer (h : Two b bm vo d ba bs uo w0 c w) (node : Int) (yes : Bool) (hwf : (Lit.int .i64 node).wf = true) (v : Bool) (hv : c.counts node = v) :
    Calls Try.prog 10 #[.pointer (some ⟨b, 0, none⟩), .int .i64 node, .bool yes] w fun e w' => e = .returned (.bool v) ∧ Half b bm vo d ba bs uo w0 c (c.answer node yes) w' := by
  subst hv; exact (answer_any b bm vo c node yes w h.l hwf h.ol h.owf).mono fun _ _ ⟨h1, h2, h3⟩ => ⟨h1, h.half h2 h3⟩
theorem Half.ranswer (h0 : Two b bm vo d ba bs uo w0 c w) {w1 : World} (node : Int) (yes : Bool) (h : Half b bm vo d ba bs uo w0 c (c.answer node yes) w1) (v : Bool) (hv : c.counts node = v) :
    Calls Try.prog 23 #[.pointer (some ⟨d, 0, none⟩), .int .i64 node, .bool yes] w1 fun e w' => e = .returned (.bool v) ∧ Two b bm vo d ba bs uo w0 (c.answer node yes) w' := by
  subst hv; exact (ransw_c d ba bs uo c node yes w1 h.r).mono fun _ _ ⟨h1, h2, h3⟩ => ⟨h1, Half.two h0 h h2 h3 (answer_owners c node yes) (answer_bd h0.bd node yes)⟩
end
end Go.Proofs.Ytffafdkjgllpcaa
