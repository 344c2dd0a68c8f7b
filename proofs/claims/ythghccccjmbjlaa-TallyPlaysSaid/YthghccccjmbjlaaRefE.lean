import Derived.Test.YthghccccjmbjlaaRefD
namespace Go.Proofs.Ythghccccjmbjlaa
open Go.RowKit Go.Maps

def RM.missing (r : RM) : List Int := r.owners.filter fun x => !decide (x ∈ r.yes)
def RM.owned (r : RM) : Int := (r.owners.length : Int) - (r.missing.length : Int)
theorem RM.missing_le (r : RM) : r.missing.length ≤ r.owners.length := List.length_filter_le _ _

/-- What holds in the world of a region that asks the document's tally. -/
def RR (b : Nat) (vo vy : Value) (r : RM) (w0 W : World) : Prop := RefAt W b vo vy r ∧ Pure w0 W
section
variable {b : Nat} {vo vy : Value} {r : RM} {w0 W W' : World}
theorem RR.cell (h : RR b vo vy r w0 W) : W.cell? ⟨b, 0, none⟩ = some vo ∧ RR b vo vy r w0 W := ⟨cell_of_block h.1.blk 0, h⟩
theorem RR.at_ (h : W.cell? ⟨b, 0, none⟩ = some vo ∧ RR b vo vy r w0 W) : RefAt W b vo vy r := h.2.1
theorem RR.start (h : RefAt W b vo vy r) : RR b vo vy r W W.drew := ⟨h.pure (Below.refl _ _).drew, (Below.refl _ _).drew⟩
theorem RR.pure (hp : Pure W W') (h : W.cell? ⟨b, 0, none⟩ = some vo ∧ RR b vo vy r w0 W) : RR b vo vy r w0 W' := ⟨h.2.1.pure hp, h.2.2.then_ hp⟩
end

set_option maxHeartbeats 1000000 in
theorem rowned_any (b : Nat) (vo vy : Value) (r : RM) (w : World) (h : RefAt w b vo vy r) :
    Calls Try.prog 20 #[.pointer (some ⟨b, 0, none⟩)] w fun e w' => e = .returned (.int .i64 r.owned) ∧ Pure w w' := by
  have HRS := hid (RR.start h)
  have hle := r.missing_le
  have hol := h.olen
  have hwrap : IntKind.i64.wrap ((r.owners.length : Int) - (r.missing.length : Int)) = (r.owners.length : Int) - (r.missing.length : Int) := IntWalk.i64_in _ (by omega)
  unfold RM.owned
  obtain ⟨a, cap, rfl⟩ := h.own.shape
  clear h
  go_enter Try.func20, Try.ntmps20
  go_wp2_with fail
  go_region_held3 (fun W => W.cell? ⟨b, 0, none⟩ = some (.slice a r.owners.length cap) ∧ RR b (.slice a r.owners.length cap) vy r w W)
    (first | exact HRS.out.cell | exact (RR.pure hp3 (by assumption)).cell)
    (first | (go_at_call 14; refine (rmissing_any b (.slice a r.owners.length cap) vy r _ ?_).mono ?_; exact RR.at_ (w0 := w) (by assumption); rintro e w3 ⟨v3, rfl, hown3, hp3⟩; obtain ⟨a3, cap3, rfl⟩ := (show Ints w3 v3 r.missing from hown3).shape))
  have hx : RR b (.slice a r.owners.length cap) vy r w w3 := (show w3.cell? ⟨b, 0, none⟩ = some (.slice a r.owners.length cap) ∧ RR b (.slice a r.owners.length cap) vy r w w3 from by assumption).2
  have Hx := hid hx.2
  clear hx hown3 hp3
  go_wp2
  go_ret
  exact ⟨rfl, Hx.out⟩

set_option maxHeartbeats 1000000 in
theorem rmost_any (b : Nat) (vo vy : Value) (r : RM) (w : World) (h : RefAt w b vo vy r) :
    Calls Try.prog 23 #[.pointer (some ⟨b, 0, none⟩)] w fun e w' => e = .returned (.bool (decide ((r.owners.length : Int) / 2 + 1 ≤ r.owned))) ∧ Pure w w' := by
  have HRS := hid (RR.start h)
  have hol := h.olen
  obtain ⟨a, cap, rfl⟩ := h.own.shape
  clear h
  go_enter Try.func23, Try.ntmps23
  go_wp2_with fail
  go_region_held3 (fun W => W.cell? ⟨b, 0, none⟩ = some (.slice a r.owners.length cap) ∧ RR b (.slice a r.owners.length cap) vy r w W)
    (first | exact HRS.out.cell | assumption | exact (RR.pure hp3 (by assumption)).cell)
    (first
      | (go_at_call 20; refine (rowned_any b (.slice a r.owners.length cap) vy r _ ?_).mono ?_; exact RR.at_ (w0 := w) (by assumption); rintro e w3 ⟨rfl, hp3⟩)
      | (go_at_call 37; refine (major_any _ _ (by omega)).mono ?_; rintro e w4 ⟨rfl, rfl⟩))
  have hx : RR b (.slice a r.owners.length cap) vy r w w3 := (show w3.cell? ⟨b, 0, none⟩ = some (.slice a r.owners.length cap) ∧ RR b (.slice a r.owners.length cap) vy r w w3 from by assumption).2
  have Hx := hid hx.2
  clear hx hp3
  go_wp2
  go_ret
  exact ⟨rfl, Hx.out⟩

/-- What the document's tally has when the tally is c. -/
def TM.ref (c : TM) : RM := ⟨c.owners, c.need, srt c.yes⟩
theorem ref_missing (c : TM) : c.ref.missing = c.missing := by
  unfold RM.missing TM.missing TM.ref
  simp only [srt_mem]
theorem ref_owned (c : TM) : c.ref.owned = c.owned := by unfold RM.owned TM.owned; rw [ref_missing]; rfl
theorem ref_others (c : TM) : (c.ref.yes.filter fun x => !decide (x ∈ c.ref.owners)) = c.others := rfl

/-- The tally and the document's, side by side. -/
structure Duo (b bm : Nat) (vo : Value) (d : Nat) (uo uy : Value) (w0 : World) (c : TM) (w : World) : Prop where
  l : TallyAt w b bm vo c
  r : RefAt w d uo uy c.ref
  kept : Kept (fun k => k = b ∨ k = bm ∨ k = d) w0 w
  n1 : b ≠ d
  n2 : bm ≠ d
  n3 : ∀ k, vo.rb = some k → k ≠ d
  n4 : ∀ k, uo.rb = some k → k ≠ b ∧ k ≠ bm
  n5 : ∀ k, uy.rb = some k → k ≠ b ∧ k ≠ bm
section
variable {b bm : Nat} {vo : Value} {d : Nat} {uo uy : Value} {w0 w w' : World} {c : TM}
theorem Duo.pure (h : Duo b bm vo d uo uy w0 c w) (hp : Pure w w') : Duo b bm vo d uo uy w0 c w' := ⟨h.l.pure hp, h.r.pure hp, h.kept.trans (Pure.kept hp), h.n1, h.n2, h.n3, h.n4, h.n5⟩
theorem Duo.missing (h : Duo b bm vo d uo uy w0 c w) :
    Calls Try.prog 13 #[.pointer (some ⟨b, 0, none⟩)] w fun e w' => ∃ v', e = .returned v' ∧ Ints w' v' c.missing ∧ Pure w w' ∧ Duo b bm vo d uo uy w0 c w' :=
  (missing_any b bm vo c w h.l).mono fun _ _ ⟨v', h1, h2, h3⟩ => ⟨v', h1, Row.of_own h2, h3, h.pure h3⟩
theorem Duo.rmissing (h : Duo b bm vo d uo uy w0 c w) :
    Calls Try.prog 14 #[.pointer (some ⟨d, 0, none⟩)] w fun e w' => ∃ v', e = .returned v' ∧ Ints w' v' c.missing ∧ Pure w w' ∧ Duo b bm vo d uo uy w0 c w' :=
  (rmissing_any d uo uy c.ref w h.r).mono fun _ _ ⟨v', h1, h2, h3⟩ => ⟨v', h1, by rw [← ref_missing]; exact h2, h3, h.pure h3⟩
theorem Duo.others (h : Duo b bm vo d uo uy w0 c w) :
    Calls Try.prog 15 #[.pointer (some ⟨b, 0, none⟩)] w fun e w' => ∃ v', e = .returned v' ∧ Ints w' v' c.others ∧ Pure w w' ∧ Duo b bm vo d uo uy w0 c w' :=
  (others_any b bm vo c w h.l).mono fun _ _ ⟨v', h1, h2, h3⟩ => ⟨v', h1, Row.of_own h2, h3, h.pure h3⟩
theorem Duo.rothers (h : Duo b bm vo d uo uy w0 c w) :
    Calls Try.prog 16 #[.pointer (some ⟨d, 0, none⟩)] w fun e w' => ∃ v', e = .returned v' ∧ Ints w' v' c.others ∧ Pure w w' ∧ Duo b bm vo d uo uy w0 c w' :=
  (rothers_any d uo uy c.ref w h.r).mono fun _ _ ⟨v', h1, h2, h3⟩ => ⟨v', h1, h2, h3, h.pure h3⟩
theorem Duo.all (h : Duo b bm vo d uo uy w0 c w) :
    Calls Try.prog 17 #[.pointer (some ⟨b, 0, none⟩)] w fun e w' => ∃ v', e = .returned v' ∧ Ints w' v' (srt c.yes) ∧ Pure w w' ∧ Duo b bm vo d uo uy w0 c w' :=
  (all_any b bm vo c w h.l).mono fun _ _ ⟨v', h1, h2, h3⟩ => ⟨v', h1, Row.of_own h2, h3, h.pure h3⟩
theorem Duo.count (h : Duo b bm vo d uo uy w0 c w) (n : Nat) (hn : (srt c.yes).length = n) :
    Calls Try.prog 18 #[.pointer (some ⟨b, 0, none⟩)] w fun e w' => e = .returned (.int .i64 n) ∧ Duo b bm vo d uo uy w0 c w' := by
  subst hn; rw [srt_len]; exact (count_any b bm vo c w h.l).mono fun _ _ ⟨h1, h2⟩ => ⟨h1, h2 ▸ h⟩
theorem Duo.owned (h : Duo b bm vo d uo uy w0 c w) (n : Int) (hn : c.owned = n) :
    Calls Try.prog 19 #[.pointer (some ⟨b, 0, none⟩)] w fun e w' => e = .returned (.int .i64 n) ∧ Duo b bm vo d uo uy w0 c w' := by
  subst hn; exact (owned_any b bm vo c w h.l).mono fun _ _ ⟨h1, h2⟩ => ⟨h1, h.pure h2⟩
theorem Duo.rowned (h : Duo b bm vo d uo uy w0 c w) (n : Int) (hn : c.owned = n) :
    Calls Try.prog 20 #[.pointer (some ⟨d, 0, none⟩)] w fun e w' => e = .returned (.int .i64 n) ∧ Duo b bm vo d uo uy w0 c w' := by
  subst hn; rw [← ref_owned]; exact (rowned_any d uo uy c.ref w h.r).mono fun _ _ ⟨h1, h2⟩ => ⟨h1, h.pure h2⟩
theorem Duo.done (h : Duo b bm vo d uo uy w0 c w) (v : Bool) (hv : decide (c.need ≤ (c.yes.length : Int)) = v) :
    Calls Try.prog 21 #[.pointer (some ⟨b, 0, none⟩)] w fun e w' => e = .returned (.bool v) ∧ Duo b bm vo d uo uy w0 c w' := by
  subst hv; exact (done_any b bm vo c w h.l).mono fun _ _ ⟨h1, h2⟩ => ⟨h1, h.pure h2⟩
theorem Duo.most (h : Duo b bm vo d uo uy w0 c w) (v : Bool) (hv : decide ((c.owners.length : Int) / 2 + 1 ≤ c.owned) = v) :
    Calls Try.prog 22 #[.pointer (some ⟨b, 0, none⟩)] w fun e w' => e = .returned (.bool v) ∧ Duo b bm vo d uo uy w0 c w' := by
  subst hv; exact (most_any b bm vo c w h.l).mono fun _ _ ⟨h1, h2⟩ => ⟨h1, h.pure h2⟩
theorem Duo.rmost (h : Duo b bm vo d uo uy w0 c w) (v : Bool) (hv : decide ((c.owners.length : Int) / 2 + 1 ≤ c.owned) = v) :
    Calls Try.prog 23 #[.pointer (some ⟨d, 0, none⟩)] w fun e w' => e = .returned (.bool v) ∧ Duo b bm vo d uo uy w0 c w' := by
  subst hv
  have := rmost_any d uo uy c.ref w h.r
  rw [ref_owned] at this
  exact this.mono fun _ _ ⟨h1, h2⟩ => ⟨h1, h.pure h2⟩
/-- Behind the tally's Yes, ahead of the document's. -/
structure Mid (b bm : Nat) (vo : Value) (d : Nat) (uo uy : Value) (w0 : World) (c c' : TM) (w : World) : Prop where
  l : TallyAt w b bm vo c'
  r : RefAt w d uo uy c.ref
  kept : Kept (fun k => k = b ∨ k = bm ∨ k = d) w0 w
theorem Duo.yes (h : Duo b bm vo d uo uy w0 c w) (node : Int) (hwf : (Lit.int .i64 node).wf = true) (hl : c.yes.length < 1000) (v : Bool) (hv : decide (node ∉ c.yes) = v) :
    Calls Try.prog 24 #[.pointer (some ⟨b, 0, none⟩), .int .i64 node] w fun e w' => e = .returned (.bool v) ∧ Mid b bm vo d uo uy w0 c (c.add node) w' :=
  (yes_at b bm vo c (c.add node) node w h.l hwf hl v hv rfl).mono fun _ _ ⟨h1, h2, h3⟩ => ⟨h1, h2, h.r.kept h3 (by have := h.n1; have := h.n2; omega) (fun k hk => by have := h.n4 k hk; omega) (fun k hk => by have := h.n5 k hk; omega), h.kept.trans (h3.mono fun _ _ h => by omega)⟩
theorem Mid.ryes (h0 : Duo b bm vo d uo uy w0 c w) {w1 : World} {c' : TM} (h : Mid b bm vo d uo uy w0 c c' w1) (node : Int) (hl : c.yes.length < 1000) (hc : c' = c.add node) (v : Bool) (hv : decide (node ∉ c.yes) = v) (hsz : ∀ k, k = b ∨ k = bm → k < w0.heap.size) :
    Calls Try.prog 25 #[.pointer (some ⟨d, 0, none⟩), .int .i64 node] w1 fun e w' => e = .returned (.bool v) ∧ ∃ uy', Duo b bm vo d uo uy' w0 c' w' := by
  subst hc; subst hv
  refine (ryes_any d uo uy c.owners c.yes c.need node w1 h.r hl).mono ?_
  rintro e w' ⟨rfl, uy', h1, h2, h3⟩
  have e1 : (TM.add c node).ref = ⟨c.owners, c.need, srt (if node ∈ c.yes then c.yes else c.yes ++ [node])⟩ := by
    unfold TM.add TM.ref; split <;> rfl
  refine ⟨rfl, uy', h.l.kept h2 (fun e => h0.n1 e) (fun e => h0.n2 e) (fun k hk e => h0.n3 k hk e), by rw [e1]; exact h1, h.kept.trans (h2.mono fun _ _ h => by omega), h0.n1, h0.n2, h0.n3, h0.n4, fun k hk => ?_⟩
  rcases h3 with rfl | h3
  · exact h0.n5 k hk
  · have a1 := h3 k hk
    have a2 := h.kept.size
    exact ⟨fun e => by have := hsz k (.inl e); omega, fun e => by have := hsz k (.inr e); omega⟩
end
end Go.Proofs.Ythghccccjmbjlaa
