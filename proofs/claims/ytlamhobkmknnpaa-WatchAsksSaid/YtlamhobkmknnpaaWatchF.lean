/- watch: Tick. -/
import Derived.Test.YtlamhobkmknnpaaWatchE
namespace Go.Proofs.Ytlamhobkmknnpaa
open Go.RowKit Go.Maps Go.MapKept

theorem step_put {α : Type} (enc : α → Value) {P : Program} {ops : Array Oper} {o : Oper} {a : Act} {w : World} {K : Act → World → Prop} {Q : Exit → Act → World → Prop} {E : Prop}
    (hg : o.guard = none) (mo x v : Operand) (t : TypeId) (hop : o.op = Op.mapUpdate t mo x v)
    (kt e : TypeId) (hk : P.underlying kt = some (.int .i64)) (ht : P.underlying t = some (.map kt e)) (b : Nat) (m : List (Int × α))
    (hm : a.eval mo = .map (some b)) (hown : IMap enc w b m) (k : Int) (hw : (Lit.int .i64 k).wf = true) (y : α) (hx : a.eval x = .int .i64 k) (hv : a.eval v = enc y)
    (hK : ∀ w', IMap enc w' b (mput m k y) → w.grownBy w' (some b) → K (a.put o.dst undef) w') :
    if Region.wanted o (yielded ops a.tmps) = true then Oper.wp P o a w K Q else E := by
  have hw' : Region.wanted o (yielded ops a.tmps) = true := by simp [Region.wanted, hg]
  rw [if_pos hw']
  obtain ⟨w', hrun, r1, r2, _⟩ := hown.put hk ht k hw y
  unfold Oper.wp
  simp [execOp, hop, hm, hx, hv, hrun, Result.andThen]
  exact hK w' r1 r2

/-- A store into the watch's own cells. -/
theorem WAt.stored {w : World} {b mb : Nat} {vr vr' : Value} {S S' : WS} (h : WAt w b mb vr S) (i : Nat) (v : Value) (hc : (wcs S mb vr).setIfInBounds i v = wcs S' mb vr') (hwt : S'.waits = S.waits) (hr : Ints w vr' S'.round) (hs : Off b mb vr') :
    WAt (w.setCell ⟨b, i, none⟩ v) b mb vr' S' ∧ Kept (W2 b mb) w (w.setCell ⟨b, i, none⟩ v) := by
  have hk : Kept (fun k => k = b) w (w.setCell ⟨b, i, none⟩ v) := (Kept.refl _ _).setCell (S := fun k => k = b) (p := ⟨b, i, none⟩) (fun _ => rfl) v
  refine ⟨⟨?_, ?_, ?_, h.ne, ?_, ?_⟩, hk.mono (fun _ _ e => .inl e)⟩
  · have := block_setCell h.blk i v
    rw [show (#[.int .i64 S.own, .int .i64 S.period, .int .i64 S.patience, .int .i64 S.clock, .int .i64 S.due, .map (some mb), vr] : Array Value) = wcs S mb vr from rfl, hc] at this
    exact this
  · rw [hwt]; exact h.map.kept hk (fun e => h.ne e.symm)
  · exact Row.kept hr hk (fun k hk e => (hs k hk).1 e)
  · exact fun e => (hs b e).1 rfl
  · exact fun e => (hs mb e).2 rfl
theorem WAt.off {w : World} {b mb : Nat} {vr : Value} {S : WS} (h : WAt w b mb vr S) : Off b mb vr := fun k hk => ⟨fun e => h.sep (by rw [hk, e]), fun e => h.sepm (by rw [hk, e])⟩

def tickL (S : WS) (l : List Pr) (now : Int) : List Pr × List (Int × Int) := lateL (max S.clock now) S.patience (srt (S.waits.map (·.1))) l S.waits
def tickN (S : WS) (l : List Pr) (now : Int) : List Pr := chg (tickL S l now).1 S.own ref1
def tick1 (S : WS) (l : List Pr) (now : Int) : WS := { S with clock := max S.clock now, waits := (tickL S l now).2 }
def tick2 (S : WS) (l : List Pr) (now : Int) : WS := { tick1 S l now with due := max S.clock now + S.period }
def tickR (S : WS) (l : List Pr) (now draw : Int) : List Int := againL (tick2 S l now) (tickN S l now) draw
def tickW (S : WS) (l : List Pr) (now : Int) (ask : Int) : List (Int × Int) := if (mlook (tickL S l now).2 ask).isSome then (tickL S l now).2 else mput (tickL S l now).2 ask (max S.clock now)
def tick (S : WS) (l : List Pr) (now draw : Int) : (Int × Bool × List Pr) × WS :=
  if max S.clock now < S.due then ((0, false, tickN S l now), tick1 S l now)
  else match tickR S l now draw with
    | [] => ((0, false, tickN S l now), { tick2 S l now with round := [] })
    | ask :: rest => ((ask, true, tickN S l now), { tick2 S l now with round := rest, waits := tickW S l now ask })
def Fr (w : World) (v v' : Value) : Prop := ∀ k, v'.rb = some k → v.rb = some k ∨ w.heap.size ≤ k
def TickP (b mb : Nat) (vr : Value) (w : World) (r : (Int × Bool × List Pr) × WS) (e : Ending) (w' : World) : Prop :=
  ∃ vn vr', e = .returned (.tuple #[.int .i64 r.1.1, .bool r.1.2.1, vn]) ∧ Peers w' vn r.1.2.2 ∧ Off b mb vn ∧ WAt w' b mb vr' r.2 ∧ Kept (W2 b mb) w w' ∧ Fr w vr vr'
theorem tickP_early {b mb : Nat} {w w' : World} {S : WS} {l : List Pr} {now draw : Int} (h : max S.clock now < S.due) {vn vr v0 : Value} (h1 : Peers w' vn (tickN S l now)) (h2 : Off b mb vn) (h3 : WAt w' b mb vr (tick1 S l now)) (h4 : Kept (W2 b mb) w w') (h5 : Fr w v0 vr) :
    TickP b mb v0 w (tick S l now draw) (.returned (.tuple #[.int .i64 0, .bool false, vn])) w' := by
  unfold tick; rw [if_pos h]; exact ⟨vn, vr, rfl, h1, h2, h3, h4, h5⟩
theorem tickP_none {b mb : Nat} {w w' : World} {S : WS} {l : List Pr} {now draw : Int} (h : ¬ max S.clock now < S.due) (hr : tickR S l now draw = []) {vn vr v0 : Value} (h1 : Peers w' vn (tickN S l now)) (h2 : Off b mb vn) (h3 : WAt w' b mb vr { tick2 S l now with round := [] }) (h4 : Kept (W2 b mb) w w') (h5 : Fr w v0 vr) :
    TickP b mb v0 w (tick S l now draw) (.returned (.tuple #[.int .i64 0, .bool false, vn])) w' := by
  unfold tick; rw [if_neg h, hr]; exact ⟨vn, vr, rfl, h1, h2, h3, h4, h5⟩
theorem tickP_ask {b mb : Nat} {w w' : World} {S : WS} {l : List Pr} {now draw ask : Int} {rest : List Int} (h : ¬ max S.clock now < S.due) (hr : tickR S l now draw = ask :: rest) {vn vr v0 : Value} (h1 : Peers w' vn (tickN S l now)) (h2 : Off b mb vn) (h3 : WAt w' b mb vr { tick2 S l now with round := rest, waits := tickW S l now ask }) (h4 : Kept (W2 b mb) w w') (h5 : Fr w v0 vr) :
    TickP b mb v0 w (tick S l now draw) (.returned (.tuple #[.int .i64 ask, .bool true, vn])) w' := by
  unfold tick; rw [if_neg h, hr]; exact ⟨vn, vr, rfl, h1, h2, h3, h4, h5⟩

def POk (l : List Pr) : Prop := ∀ p ∈ l, 0 ≤ p.id ∧ p.id ≤ 1000 ∧ 0 ≤ p.inc ∧ p.inc ≤ 1073741824
theorem chg_pok {l : List Pr} {f : Pr → Pr} {id : Int} (h : POk l) (hf : ∀ p, 0 ≤ p.id ∧ p.id ≤ 1000 ∧ 0 ≤ p.inc ∧ p.inc ≤ 1073741824 → 0 ≤ (f p).id ∧ (f p).id ≤ 1000 ∧ 0 ≤ (f p).inc ∧ (f p).inc ≤ 1073741824) : POk (chg l id f) := by
  induction l with
  | nil => exact h
  | cons q l ih =>
    have hl := ih (fun p hp => h p (List.mem_cons_of_mem _ hp))
    have hq := h q (List.mem_cons_self ..)
    intro p hp
    unfold chg at hp
    split at hp
    · rcases List.mem_cons.1 hp with rfl | hp
      · exact hf q hq
      · exact h p (List.mem_cons_of_mem _ hp)
    · rcases List.mem_cons.1 hp with rfl | hp
      · exact hq
      · exact hl p hp
theorem sus1_ok (p : Pr) (h : 0 ≤ p.id ∧ p.id ≤ 1000 ∧ 0 ≤ p.inc ∧ p.inc ≤ 1073741824) : 0 ≤ (sus1 p).id ∧ (sus1 p).id ≤ 1000 ∧ 0 ≤ (sus1 p).inc ∧ (sus1 p).inc ≤ 1073741824 := by
  unfold sus1; split <;> exact h
theorem ref1_ok (p : Pr) (h : 0 ≤ p.id ∧ p.id ≤ 1000 ∧ 0 ≤ p.inc ∧ p.inc ≤ 1073741824) : 0 ≤ (ref1 p).id ∧ (ref1 p).id ≤ 1000 ∧ 0 ≤ (ref1 p).inc ∧ (ref1 p).inc ≤ 1073741824 := by
  unfold ref1; split
  · rename_i hc; dsimp only; omega
  · exact h
theorem lateL_pok {c p : Int} : ∀ {ks : List Int} {l : List Pr} {m : List (Int × Int)}, POk l → POk (lateL c p ks l m).1
  | [], _, _, h => h
  | id :: ks, l, m, h => by
    have h2 : POk (lateS c p (l, m) id).1 := by
      unfold lateS; split
      · exact h
      · exact chg_pok h sus1_ok
    exact lateL_pok (c := c) (p := p) (ks := ks) (l := (lateS c p (l, m) id).1) (m := (lateS c p (l, m) id).2) h2
theorem tickN_pok {S : WS} {l : List Pr} {now : Int} (h : POk l) : POk (tickN S l now) := chg_pok (lateL_pok h) ref1_ok
theorem tickN_len {S : WS} {l : List Pr} {now : Int} : (tickN S l now).length = l.length := (chg_len _ _ _).trans lateL_len
theorem mem_wf {l : List Pr} (h : POk l) : AllWf (mem l) := fun x hx => by
  unfold mem at hx
  obtain ⟨p, hp, rfl⟩ := List.mem_map.1 hx
  have := h p (List.mem_filter.1 hp).1
  exact wf_i64 _ (by omega)
/-- late's step, then Refute. -/
theorem WOk.clock' {n : Nat} {S : WS} (h : WOk n S) {c : Int} (hc : 0 ≤ c ∧ c ≤ 1000000) : WOk n { S with clock := c } := ⟨h.own, h.period, h.patience, hc, h.waits, h.nd, h.len, h.round, h.rlen⟩
theorem lateL_sub {c p : Int} : ∀ {ks : List Int} {l : List Pr} {m : List (Int × Int)}, (lateL c p ks l m).2.Sublist m
  | [], _, _ => List.Sublist.refl _
  | id :: ks, l, m => by
    have h2 : (lateS c p (l, m) id).2.Sublist m := by
      unfold lateS; split
      · exact List.Sublist.refl _
      · exact List.filter_sublist
    exact (lateL_sub (c := c) (p := p) (ks := ks) (l := (lateS c p (l, m) id).1) (m := (lateS c p (l, m) id).2)).trans h2
theorem WOk.late {n : Nat} {S : WS} (h : WOk n S) {l : List Pr} {now : Int} (hc : now ≤ 1000000) : WOk n (tick2 S l now) := by
  have hs : (tickL S l now).2.Sublist S.waits := lateL_sub
  have := h.clock
  exact ⟨h.own, h.period, h.patience, by show 0 ≤ max S.clock now ∧ max S.clock now ≤ 1000000; omega, fun e he => h.waits e (hs.subset he), (hs.map _).nodup h.nd, Nat.le_trans hs.length_le h.len, h.round, h.rlen⟩
theorem againL_mem {S : WS} {l : List Pr} {draw x : Int} (h : x ∈ againL S l draw) : x ∈ others l S.own := by
  unfold againL at h
  split at h
  · simpa using (List.mem_filter.1 h).2
  · unfold rot at h
    rcases List.mem_append.1 h with h | h
    · exact List.mem_of_mem_drop h
    · exact List.mem_of_mem_take h
theorem others_mem {l : List Pr} {own x : Int} (h : x ∈ others l own) : x ∈ mem l ∧ x ≠ own := by
  unfold others at h
  have := List.mem_filter.1 h
  exact ⟨this.1, by simpa using this.2⟩
theorem mem_bd {l : List Pr} (h : POk l) {x : Int} (hx : x ∈ mem l) : 0 ≤ x ∧ x ≤ 1000 := by
  unfold mem at hx
  obtain ⟨p, hp, rfl⟩ := List.mem_map.1 hx
  have := h p (List.mem_filter.1 hp).1
  exact ⟨this.1, this.2.1⟩
theorem tickR_bd {S : WS} {l : List Pr} {now draw : Int} (h : POk l) {x : Int} (hx : x ∈ tickR S l now draw) : 0 ≤ x ∧ x ≤ 1000 := mem_bd (tickN_pok h) (others_mem (againL_mem hx)).1
end Go.Proofs.Ytlamhobkmknnpaa
