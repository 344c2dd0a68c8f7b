/- ClaimPlays. -/
import Derived.Test.YtffafdkjgllpcaaPlaysH
import Derived.Test.YtffafdkjgllpcaaSaysOpen
namespace Go.Proofs.Ytffafdkjgllpcaa
open Go.RowKit Go.Maps

theorem plan_set {w : World} {p : Nat} {d1 d2 receipt start term skew : Int} {v vo : Value} (h : w.heap[p]? = some (.cells (plan d1 d2 receipt start term skew v) 40 (0, 0))) :
    (((((((w.setCell ⟨p, 0, none⟩ (.int .i64 d1)).setCell ⟨p, 1, none⟩ (.int .i64 d2)).setCell ⟨p, 2, none⟩ (.int .i64 receipt)).setCell ⟨p, 3, none⟩ (.int .i64 start)).setCell ⟨p, 4, none⟩ (.int .i64 term)).setCell ⟨p, 5, none⟩ (.int .i64 skew)).setCell ⟨p, 6, none⟩ vo).heap[p]? = some (.cells (plan d1 d2 receipt start term skew vo) 40 (0, 0)) ∧
    Kept (fun k => k = p) w (((((((w.setCell ⟨p, 0, none⟩ (.int .i64 d1)).setCell ⟨p, 1, none⟩ (.int .i64 d2)).setCell ⟨p, 2, none⟩ (.int .i64 receipt)).setCell ⟨p, 3, none⟩ (.int .i64 start)).setCell ⟨p, 4, none⟩ (.int .i64 term)).setCell ⟨p, 5, none⟩ (.int .i64 skew)).setCell ⟨p, 6, none⟩ vo) := by
  refine ⟨?_, ((((((kept_set w p 0 _).trans (kept_set _ p 1 _)).trans (kept_set _ p 2 _)).trans (kept_set _ p 3 _)).trans (kept_set _ p 4 _)).trans (kept_set _ p 5 _)).trans (kept_set _ p 6 _)⟩
  have h0 := block_setCell (block_setCell (block_setCell (block_setCell (block_setCell (block_setCell (block_setCell h 0 (.int .i64 d1)) 1 (.int .i64 d2)) 2 (.int .i64 receipt)) 3 (.int .i64 start)) 4 (.int .i64 term)) 5 (.int .i64 skew)) 6 vo
  rw [h0]; simp [plan]

theorem ok_of_good {l : List Int} {start term skew : Int} (h : rbad ((dd l).length : Int) start term skew = false) : newOk l start term skew := by
  unfold newOk
  generalize (dd l).length = K at *
  unfold rbad at h
  simp at h
  omega
theorem newBd {d1 d2 receipt start term skew : Int} {l : List Int} (h : newOk l start term skew) : (newCM d1 d2 receipt l start term skew).Bd := by
  obtain ⟨k1, k2, k3, k4, k5, k6, k7, k8, k9⟩ := h
  exact ⟨k3, k4, k5, k6, k7, k8⟩
theorem ddo_nodup : ∀ (l acc : List Int), acc.Nodup → (ddo acc l).Nodup
  | [], acc, h => by simpa [ddo] using h
  | x :: l, acc, h => by
    unfold ddo
    split
    · exact ddo_nodup l acc h
    · rename_i hx
      refine ddo_nodup l _ (List.nodup_append.2 ⟨h, by simp, fun a ha b hb e => ?_⟩)
      simp at hb; subst hb; subst e; exact hx ha
theorem ddo_mem : ∀ (l acc : List Int) (x : Int), x ∈ ddo acc l ↔ x ∈ acc ∨ x ∈ l
  | [], acc, x => by simp [ddo]
  | y :: l, acc, x => by
    unfold ddo
    rw [ddo_mem l _ x]
    split
    · rename_i hy
      simp only [List.mem_cons]
      constructor
      · rintro (h | h)
        · exact .inl h
        · exact .inr (.inr h)
      · rintro (h | rfl | h)
        · exact .inl h
        · exact .inl hy
        · exact .inr h
    · simp only [List.mem_append, List.mem_cons, List.mem_nil_iff, or_false, or_assoc]
theorem dd_mem (l : List Int) (x : Int) : x ∈ dd l ↔ x ∈ l := by unfold dd; rw [ddo_mem]; simp
theorem dd_wf {l : List Int} (h : AllWf l) : AllWf (dd l) := fun x hx => h x ((dd_mem l x).1 hx)
theorem dd_nodup (l : List Int) : (dd l).Nodup := ddo_nodup l [] (by simp)

theorem same_eq {v u : Value} {l : List Int} {w : World} (hv : Ints w v l) (hu : Ints w u l) :
    Calls Try.prog 16 #[v, u] w fun e w' => e = .returned (.bool true) ∧ Pure w w' := by
  have := same_any v u l l w hv hu
  rw [decide_eq_true rfl] at this
  exact this
theorem CM.bd_sum {c : CM} (h : c.Bd) : IntKind.i64.wrap (c.start + c.term) = c.start + c.term ∧ IntKind.i64.wrap (2 * c.skew) = 2 * c.skew ∧ IntKind.i64.wrap (c.start + c.term - 2 * c.skew) = c.start + c.term - 2 * c.skew ∧ IntKind.i64.wrap (c.start + c.term - 2 * c.skew - 1) = c.start + c.term - 2 * c.skew - 1 := by
  obtain ⟨h1, h2, h3, h4, h5, h6⟩ := h
  exact ⟨IntWalk.i64_in _ (by omega), IntWalk.i64_in _ (by omega), IntWalk.i64_in _ (by omega), IntWalk.i64_in _ (by omega)⟩
/-- Says that came in, with their numbers' bounds. -/
def SaysW (w : World) (a : Option Addr) (n cap : Nat) (l : List (Int × Bool × Bool)) : Prop := Says w a n cap l ∧ ∀ k, k < n → (Lit.int .i64 (l.getD k (0, false, false)).1).wf = true
theorem ended_times (c : CM) : c.ended.start = c.start ∧ c.ended.term = c.term ∧ c.ended.skew = c.skew := by unfold CM.ended; split <;> (try split) <;> exact ⟨rfl, rfl, rfl⟩
theorem answer_times (c : CM) (x : Int) (y : Bool) : (c.answer x y).start = c.start ∧ (c.answer x y).term = c.term ∧ (c.answer x y).skew = c.skew := by unfold CM.answer CM.count; split <;> exact ⟨rfl, rfl, rfl⟩

set_option maxRecDepth 8000 in
set_option maxHeartbeats 6000000 in
theorem plays_walk (d1 d2 receipt start term skew now : Int) (v : Value) (O : List Int) (a : Option Addr) (len cap : Nat) (w : World) (l : List (Int × Bool × Bool)) (hv : Ints w v O) (hwf : AllWf O) (hl : SaysW w a len cap l) :
    Calls Try.prog 6 #[.agg (plan d1 d2 receipt start term skew v), .slice a len cap, .int .i64 now] w fun e w' => e = .returned (.bool true) ∧ Pure w w' := by
  have ha := hid (fun W => awake_any W)
  have HI := hid hv
  have HV := hid hl
  have hcap := hl.1.cap_le
  have hle := hl.1.le
  unfold maxLen at hcap
  clear hv hl
  unfold plan
  go_enter Try.func6, Try.ntmps6
  go_wp2_with fail
  refine (ha.out _).mono ?_
  rintro e w1 ⟨rfl, hp1⟩
  have bp : w1.heap[w.heap.size]? = some (.cells #[.int .i64 d1, .int .i64 d2, .int .i64 receipt, .int .i64 start, .int .i64 term, .int .i64 skew, v] 40 (0, 0)) := (hp1.block _ (by simp)).trans (block_alloc_new _ _)
  have p0 : w1.cell? ⟨w.heap.size, 0, none⟩ = some (.int .i64 d1) := cell_of_block bp 0
  have p1 : w1.cell? ⟨w.heap.size, 1, none⟩ = some (.int .i64 d2) := cell_of_block bp 1
  have p2 : w1.cell? ⟨w.heap.size, 2, none⟩ = some (.int .i64 receipt) := cell_of_block bp 2
  have p3 : w1.cell? ⟨w.heap.size, 3, none⟩ = some (.int .i64 start) := cell_of_block bp 3
  have p4 : w1.cell? ⟨w.heap.size, 4, none⟩ = some (.int .i64 term) := cell_of_block bp 4
  have p5 : w1.cell? ⟨w.heap.size, 5, none⟩ = some (.int .i64 skew) := cell_of_block bp 5
  have p6 : w1.cell? ⟨w.heap.size, 6, none⟩ = some v := cell_of_block bp 6
  have HP1 := hid ((show Pure w (w.alloc _) from (Below.refl _ _).alloc (Nat.le_refl _) _).then_ hp1)
  have hsz : w.heap.size < w1.heap.size := lt_of_block bp
  have Bp := hid bp
  clear hp1 bp
  obtain ⟨av, cv, rfl⟩ := HI.out.shape
  go_wp2_with fail
  obtain ⟨L, hL⟩ : ∃ L, L = O.take 70 := ⟨_, rfl⟩
  have hlen : L.length ≤ 70 := by rw [hL]; simp; omega
  have hwfl : AllWf L := fun x hx => hwf x (by rw [hL] at hx; exact List.mem_of_mem_take hx)
  refine (few_any d1 d2 receipt start term skew _ O w1 (HI.out.pure HP1.out)).mono ?_
  rintro e w2 ⟨vo, rfl, hi2, hp2, hv2⟩
  rw [← hL] at hi2
  unfold plan
  have bp : w2.heap[w.heap.size]? = some (.cells #[.int .i64 d1, .int .i64 d2, .int .i64 receipt, .int .i64 start, .int .i64 term, .int .i64 skew, .slice av O.length cv] 40 (0, 0)) := (hp2.block _ hsz).trans Bp.out
  have q0 : w2.cell? ⟨w.heap.size, 0, none⟩ = some (.int .i64 d1) := cell_of_block bp 0
  have q1 : w2.cell? ⟨w.heap.size, 1, none⟩ = some (.int .i64 d2) := cell_of_block bp 1
  have q2 : w2.cell? ⟨w.heap.size, 2, none⟩ = some (.int .i64 receipt) := cell_of_block bp 2
  have q3 : w2.cell? ⟨w.heap.size, 3, none⟩ = some (.int .i64 start) := cell_of_block bp 3
  have q4 : w2.cell? ⟨w.heap.size, 4, none⟩ = some (.int .i64 term) := cell_of_block bp 4
  have q5 : w2.cell? ⟨w.heap.size, 5, none⟩ = some (.int .i64 skew) := cell_of_block bp 5
  have q6 : w2.cell? ⟨w.heap.size, 6, none⟩ = some (.slice av O.length cv) := cell_of_block bp 6
  have f : ∀ i, w2.frozen? ⟨w.heap.size, i, none⟩ = false := fun i => free_of_block bp i
  have f0 := f 0
  have f1 := f 1
  have f2 := f 2
  have f3 := f 3
  have f4 := f 4
  have f5 := f 5
  have f6 := f 6
  clear f p0 p1 p2 p3 p4 p5 p6 hL
  obtain ⟨a2, c2, rfl⟩ := hi2.shape
  have hset := plan_set (vo := .slice a2 L.length c2) bp
  have Hi2 := hid hi2
  have Hp2 := hid (HP1.out.then_ hp2)
  have hsz2 : w.heap.size < w2.heap.size := lt_of_block bp
  clear hi2 hp2 bp
  go_wp2_with fail
  generalize (((((((w2.setCell ⟨w.heap.size, 0, none⟩ (.int .i64 d1)).setCell ⟨w.heap.size, 1, none⟩ (.int .i64 d2)).setCell ⟨w.heap.size, 2, none⟩ (.int .i64 receipt)).setCell ⟨w.heap.size, 3, none⟩ (.int .i64 start)).setCell ⟨w.heap.size, 4, none⟩ (.int .i64 term)).setCell ⟨w.heap.size, 5, none⟩ (.int .i64 skew)).setCell ⟨w.heap.size, 6, none⟩ (.slice a2 L.length c2)) = w3 at hset ⊢
  obtain ⟨hb3, hk3⟩ := hset
  have HP3 := hid (show Pure w w3 from Hp2.out.kept_then hk3 (fun k hk => by omega))
  have hi3 : Ints w3 (.slice a2 L.length c2) L := Hi2.out.kept hk3 (fun k hk e => by have := Row.lt HI.out k (hv2 k hk); omega)
  have hsz3 : w.heap.size < w3.heap.size := lt_of_block hb3
  have Hi3 := hid hi3
  have Hb3 := hid hb3
  clear hk3 hi3 hb3 hv2 q0 q1 q2 q3 q4 q5 q6 f0 f1 f2 f3 f4 f5 f6
  have hcells : Hid (∀ W, Pure w3 W → W.cell? ⟨w.heap.size, 0, none⟩ = some (.int .i64 d1) ∧ W.cell? ⟨w.heap.size, 1, none⟩ = some (.int .i64 d2) ∧ W.cell? ⟨w.heap.size, 2, none⟩ = some (.int .i64 receipt) ∧ W.cell? ⟨w.heap.size, 3, none⟩ = some (.int .i64 start) ∧ W.cell? ⟨w.heap.size, 4, none⟩ = some (.int .i64 term) ∧ W.cell? ⟨w.heap.size, 5, none⟩ = some (.int .i64 skew) ∧ W.cell? ⟨w.heap.size, 6, none⟩ = some (.slice a2 L.length c2)) := fun W hW => by
    have h := (hW.block _ hsz3).trans Hb3.out
    exact ⟨cell_of_block h 0, cell_of_block h 1, cell_of_block h 2, cell_of_block h 3, cell_of_block h 4, cell_of_block h 5, cell_of_block h 6⟩
  cases hbad : rbad ((dd L).length : Int) start term skew with
  | true =>
    refine (new_no d1 d2 receipt start term skew _ L w3 Hi3.out (by omega) hwfl hbad).mono ?_
    rintro e w4 ⟨rfl, hp4⟩
    obtain ⟨q0, q1, q2, q3, q4, q5, q6⟩ := hcells.out w4 hp4
    have Hp4 := hid hp4
    clear hp4
    go_wp2_with fail
    refine (rnew_no d1 d2 receipt start term skew _ L w4 (Hi3.out.pure Hp4.out) (by omega) hbad).mono ?_
    rintro e w5 ⟨rfl, hp5⟩
    have Hp5 := hid (HP3.out.then_ (Hp4.out.then_ hp5))
    clear hp5 hbad q0 q1 q2 q3 q4 q5 q6
    go_wp2
    go_ret
    exact ⟨rfl, Hp5.out⟩
  | false =>
    have hok := ok_of_good hbad
    refine (new_ok d1 d2 receipt start term skew _ L w3 Hi3.out (by omega) hwfl hok).mono ?_
    rintro e w4 ⟨b, bm, vo, rfl, hA, hb, hbm, hvo, hp4⟩
    obtain ⟨q0, q1, q2, q3, q4, q5, q6⟩ := hcells.out w4 hp4
    have Hp4 := hid hp4
    have HA := hid hA
    have Hok := hid hok
    clear hp4 hbad hok hA
    go_wp2_with fail
    refine (rnew_ok d1 d2 receipt start term skew _ L w4 (Hi3.out.pure Hp4.out) (by omega) (dd_nodup L) Hok.out).mono ?_
    rintro e w5 ⟨d, ba, bs, uo, rfl, hR, hd, hba, hbs, huo, hp5⟩
    clear q0 q1 q2 q3 q4 q5 q6
    obtain ⟨q0, q1, q2, q3, q4, q5, q6⟩ := hcells.out w5 (Hp4.out.then_ hp5)
    have HT := hid (show Two b bm vo d ba bs uo w5 (newCM d1 d2 receipt L start term skew) w5 from by
      have hlt1 := lt_of_block HA.out.blk
      have hlt2 := HA.out.map.lt
      have hlt3 := Row.lt HA.out.own
      refine ⟨HA.out.pure hp5, hR, Kept.refl _ _, fun k hk => by omega, fun k hk => by have := hlt3 k hk; omega, fun k hk => by have := huo k hk; omega, ?_, dd_wf hwfl, newBd Hok.out⟩
      show (dd L).length ≤ 1000000
      have := dd_len L; omega)
    have HP5 := hid (HP3.out.then_ (Hp4.out.then_ hp5))
    have hsz5 : w.heap.size < w5.heap.size := by have := Hp4.out.size; have := hp5.size; omega
    clear hp5 hR
    have hc : Hid ((newCM d1 d2 receipt L start term skew).d1 = d1 ∧ (newCM d1 d2 receipt L start term skew).d2 = d2 ∧ (newCM d1 d2 receipt L start term skew).receipt = receipt ∧ (newCM d1 d2 receipt L start term skew).start = start ∧ (newCM d1 d2 receipt L start term skew).term = term ∧ (newCM d1 d2 receipt L start term skew).skew = skew) := ⟨rfl, rfl, rfl, rfl, rfl, rfl⟩
    generalize newCM d1 d2 receipt L start term skew = c0 at *
    obtain ⟨au, cu, rfl⟩ := HT.out.rown.shape
    have hbd := c0.bd_sum HT.out.bd
    rw [hc.out.2.2.2.1, hc.out.2.2.2.2.1, hc.out.2.2.2.2.2] at hbd
    obtain ⟨hw1, hw2, hw3, hw4⟩ := hbd
    have hcT : Hid (∀ c W, Two b bm vo d ba bs (.slice au c0.owners.length cu) w5 c W → (W.cell? ⟨w.heap.size, 0, none⟩ = some (.int .i64 d1) ∧ W.cell? ⟨w.heap.size, 1, none⟩ = some (.int .i64 d2) ∧ W.cell? ⟨w.heap.size, 2, none⟩ = some (.int .i64 receipt) ∧ W.cell? ⟨w.heap.size, 3, none⟩ = some (.int .i64 start) ∧ W.cell? ⟨w.heap.size, 4, none⟩ = some (.int .i64 term) ∧ W.cell? ⟨w.heap.size, 5, none⟩ = some (.int .i64 skew) ∧ Two b bm vo d ba bs (.slice au c0.owners.length cu) w5 c W)) := fun c W hW => by
      have hs4 := Hp4.out.size
      have hs5 := HP5.out.size
      have e : ∀ i, W.cell? ⟨w.heap.size, i, none⟩ = w5.cell? ⟨w.heap.size, i, none⟩ := fun i => hW.kept.cell (p := ⟨w.heap.size, i, none⟩) (show w.heap.size < w5.heap.size from hsz5) (by show ¬ (w.heap.size = b ∨ w.heap.size = bm ∨ w.heap.size = d ∨ w.heap.size = ba ∨ w.heap.size = bs); omega)
      exact ⟨(e 0).trans q0, (e 1).trans q1, (e 2).trans q2, (e 3).trans q3, (e 4).trans q4, (e 5).trans q5, hW⟩
    have fin : Hid (∀ W, Kept (fun k => k = b ∨ k = bm ∨ k = d ∨ k = ba ∨ k = bs) w5 W → Pure w W) := fun W hW => HP5.out.kept_then hW (fun k hk => by have := HP3.out.size; have := Hp4.out.size; omega)
    have hsay : Hid (∀ k, k < len → ∃ bl off, a = some ⟨bl, off, none⟩ ∧ ∀ W, Kept (fun k => k = b ∨ k = bm ∨ k = d ∨ k = ba ∨ k = bs) w5 W → (W.cell? ⟨bl, off + k * 3, none⟩ = some (.int .i64 (l.getD k (0, false, false)).1) ∧ W.cell? ⟨bl, off + k * 3 + 1, none⟩ = some (.bool (l.getD k (0, false, false)).2.1) ∧ W.cell? ⟨bl, off + k * 3 + 2, none⟩ = some (.bool (l.getD k (0, false, false)).2.2))) := fun k hk => by
      obtain ⟨bl, off, e, hb', c0, c1, c2⟩ := HV.out.1.cell k hk
      refine ⟨bl, off, e, fun W hW => ?_⟩
      have hp := fin.out W hW
      exact ⟨(hp.cell (by exact hb')).trans c0, (hp.cell (by exact hb')).trans c1, (hp.cell (by exact hb')).trans c2⟩
    clear q0 q1 q2 q3 q4 q5 q6
    go_wp2_with fail
    have hD0 : Two b bm vo d ba bs (.slice au c0.owners.length cu) w5 c0 w5.drew := HT.out.pure (Below.refl _ _).drew
    go_region_held3 (fun W => W.cell? ⟨d, 6, none⟩ = some (.slice au c0.owners.length cu) ∧ Two b bm vo d ba bs (.slice au c0.owners.length cu) w5 c0 W)
      (first | exact Two.cell (by assumption))
      (first
        | (go_at_call 17; refine (Two.owners (by assumption)).mono ?_; rintro e w6 ⟨v6, rfl, hi6, hT6⟩; obtain ⟨a6, c6, rfl⟩ := hi6.shape)
        | (go_at_call 16; refine (same_eq hi6 hT6.rown).mono ?_; rintro e w7 ⟨rfl, hp7⟩; have hT7 := hT6.pure hp7))
    have HT7 := hid (show Two b bm vo d ba bs (.slice au c0.owners.length cu) w5 c0 w7 from by assumption)
    clear hi6 hT6 hp7 hT7 hD0
    go_wp2_with fail
    have hD0 : Two b bm vo d ba bs (.slice au c0.owners.length cu) w5 c0 w7.drew := HT7.out.pure (Below.refl _ _).drew
    go_region_held3 (fun W => W.cell? ⟨w.heap.size, 0, none⟩ = some (.int .i64 d1) ∧ W.cell? ⟨w.heap.size, 1, none⟩ = some (.int .i64 d2) ∧ W.cell? ⟨w.heap.size, 2, none⟩ = some (.int .i64 receipt) ∧ W.cell? ⟨w.heap.size, 3, none⟩ = some (.int .i64 start) ∧ W.cell? ⟨w.heap.size, 4, none⟩ = some (.int .i64 term) ∧ W.cell? ⟨w.heap.size, 5, none⟩ = some (.int .i64 skew) ∧ Two b bm vo d ba bs (.slice au c0.owners.length cu) w5 c0 W)
      (first | exact hcT.out _ _ (by assumption))
      (first
        | (go_at_call 18; refine (Two.until (by assumption) (start + term) (by rw [hc.out.2.2.2.1, hc.out.2.2.2.2.1])).mono ?_; rintro e w8 ⟨rfl, hT8⟩)
        | (go_at_call 19; refine (Two.over (by assumption) (start + term - 2 * skew) (by rw [hc.out.2.2.2.1, hc.out.2.2.2.2.1, hc.out.2.2.2.2.2])).mono ?_; rintro e w9 ⟨rfl, hT9⟩)
        | (go_at_call 20; refine (Two.dot (by assumption) d1 d2 hc.out.1 hc.out.2.1).mono ?_; rintro e w10 ⟨rfl, hT10⟩)
        | (go_at_call 21; refine (Two.receipt (by assumption) receipt hc.out.2.2.1).mono ?_; rintro e w11 ⟨rfl, hT11⟩))
    have HT11 := hid (show Two b bm vo d ba bs (.slice au c0.owners.length cu) w5 c0 w11 from by assumption)
    clear hD0 hT8 hT9 hT10 hT11
    obtain ⟨ov, hove⟩ : ∃ ov, ov = start + term - 2 * skew := ⟨_, rfl⟩
    have hwo : wrap64 (ov - 1) = ov - 1 := by obtain ⟨_, _, k3, k4, k5, k6, k7, k8, k9⟩ := Hok.out; exact IntWalk.wrap64_in _ (by omega)
    have hov := hid hove.symm
    clear hove
    clear hw1 hw2 hw3 hw4
    go_wp2_with fail
    go_loopw [11] (fun i wr => ∃ (k : Nat) (c : CM), k ≤ len ∧ i = .int .i64 k ∧ Two b bm vo d ba bs (.slice au c0.owners.length cu) w5 c wr ∧ c.owners = c0.owners ∧ c.start = start ∧ c.term = term ∧ c.skew = skew) (fun i _ => len - (RowKit.intOf i).toNat)
    case atStart => exact ⟨0, _, Nat.zero_le _, rfl, HT11.out, rfl, hc.out.2.2.2.1, hc.out.2.2.2.2.1, hc.out.2.2.2.2.2⟩
    case round =>
      obtain ⟨k, c, hk, rfl, hT, hco, hts⟩ := hrel
      by_cases hlt : k < len ∧ k < 40
      · obtain ⟨hlt1, hlt2⟩ := hlt
        have hl1 : (k : Int) < (len : Int) := by omega
        have hl2 : (k : Int) < 40 := by omega
        obtain ⟨bl, off, rfl, hcell⟩ := hsay.out k hlt1
        have hxwf := HV.out.2 k hlt1
        have Hcell := hid hcell
        clear hcell
        obtain ⟨c0x, c1x, c2x⟩ := Hcell.out wr hT.kept
        generalize (l.getD k (0, false, false)).1 = x at *
        generalize (l.getD k (0, false, false)).2.1 = Y at *
        generalize (l.getD k (0, false, false)).2.2 = E at *
        cases E with
        | true =>
          have htimes : Hid (c.ended.start = start ∧ c.ended.term = term ∧ c.ended.skew = skew) := by
            obtain ⟨t1, t2, t3⟩ := ended_times c
            exact ⟨t1.trans hts.1, t2.trans hts.2.1, t3.trans hts.2.2⟩
          have hown := hid ((ended_owners c).trans hco)
          clear hts hco
          go_wp2_with fail
          refine (Two.end_ hT).mono ?_
          rintro e w6 ⟨rfl, hh6⟩
          go_wp2_with fail
          refine (Half.rend hT hh6).mono ?_
          rintro e w7' ⟨rfl, hT7⟩
          clear hh6 hT c0x c1x c2x
          have hTa := hT7
          clear hT7
          go_wp2_with fail
          refine (Two.yes hTa).mono ?_
          rintro e w8 ⟨v8, rfl, hi8, hT8⟩
          obtain ⟨a8, c8, rfl⟩ := hi8.shape
          have Hi8 := hid hi8
          clear hi8 hTa
          go_wp2_with fail
          refine (Two.ryes hT8).mono ?_
          rintro e w9 ⟨v9, rfl, hi9, hT9, hp9⟩
          obtain ⟨a9, c9, rfl⟩ := hi9.shape
          have Hs := hid (same_eq (Hi8.out.pure hp9) hi9)
          clear hi9 hp9 hT8
          go_wp2_with fail
          refine Hs.out.mono ?_
          rintro e w10 ⟨rfl, hp10⟩
          have hT10 := hT9.pure hp10
          have HT10 := hid hT10
          clear hp10 hT9 hT10 Hs Hi8
          obtain ⟨s, hs⟩ : ∃ s, s = c.ended.state := ⟨_, rfl⟩
          obtain ⟨V1, hV1⟩ : ∃ V1, V1 = (decide (c.ended.state = 1) && decide (now < c.ended.start + c.ended.term - 2 * c.ended.skew)) := ⟨_, rfl⟩
          have hv1 := hid hV1.symm
          have hv2 := hid (show (decide (c.ended.state = 1) && decide (ov - 1 < c.ended.start + c.ended.term - 2 * c.ended.skew)) = (s == 1) by rw [htimes.out.1, htimes.out.2.1, htimes.out.2.2, hov.out, ← hs, show decide (ov - 1 < ov) = true by simp; omega, Bool.and_true]; rw [Bool.eq_iff_iff]; simp)
          have hst := hid hs.symm
          clear hs hV1
          go_wp2_with fail
          refine (Two.state HT10.out s hst.out).mono ?_
          rintro e w11 ⟨rfl, hT11⟩
          go_wp2_with fail
          refine (Two.rstate hT11 s hst.out).mono ?_
          rintro e w12 ⟨rfl, hT12⟩
          clear hT11
          go_wp2_with fail
          refine (Two.valid hT12 now V1 hv1.out).mono ?_
          rintro e w13 ⟨rfl, hT13⟩
          clear hT12
          go_wp2_with fail
          refine (Two.rvalid hT13 now V1 hv1.out).mono ?_
          rintro e w14 ⟨rfl, hT14⟩
          clear hT13
          go_wp2_with fail
          refine (Two.over hT14 ov (by rw [htimes.out.1, htimes.out.2.1, htimes.out.2.2]; exact hov.out)).mono ?_
          rintro e w15 ⟨rfl, hT15⟩
          clear hT14
          go_wp2_with fail
          refine (Two.valid hT15 (ov - 1) (s == 1) hv2.out).mono ?_
          rintro e w16 ⟨rfl, hT16⟩
          clear hT15
          go_wp2_with fail
          refine (Two.rstate hT16 s hst.out).mono ?_
          rintro e w17 ⟨rfl, hT17⟩
          have HT17 := hid hT17
          clear hT16 hT17
          go_wp2
          go_roundw
          case rel => exact ⟨k + 1, c.ended, by omega, by go_num, HT17.out, hown.out, htimes.out⟩
          case measure => simp [RowKit.intOf]; omega
        | false =>
          have htimes : Hid ((c.answer x Y).start = start ∧ (c.answer x Y).term = term ∧ (c.answer x Y).skew = skew) := by
            obtain ⟨t1, t2, t3⟩ := answer_times c x Y
            exact ⟨t1.trans hts.1, t2.trans hts.2.1, t3.trans hts.2.2⟩
          have hown := hid ((answer_owners c x Y).trans hco)
          obtain ⟨V, hVe⟩ : ∃ V, V = c.counts x := ⟨_, rfl⟩
          have hV := hid hVe.symm
          clear hVe
          clear hts hco
          go_wp2_with fail
          have hD0 : Two b bm vo d ba bs (.slice au c0.owners.length cu) w5 c wr.drew := hT.pure (Below.refl _ _).drew
          have HcellK := hid (fun W hW => (show W.cell? ⟨bl, off + k * 3, none⟩ = some (.int .i64 x) ∧ W.cell? ⟨bl, off + k * 3 + 1, none⟩ = some (.bool Y) ∧ Kept (fun k => k = b ∨ k = bm ∨ k = d ∨ k = ba ∨ k = bs) w5 W from ⟨(Hcell.out W hW).1, (Hcell.out W hW).2.1, hW⟩))
          go_region_held3 (fun W => W.cell? ⟨bl, off + k * 3, none⟩ = some (.int .i64 x) ∧ W.cell? ⟨bl, off + k * 3 + 1, none⟩ = some (.bool Y) ∧ Kept (fun k => k = b ∨ k = bm ∨ k = d ∨ k = ba ∨ k = bs) w5 W)
            (first | exact HcellK.out _ (Two.kept (by assumption)) | exact HcellK.out _ (Half.kept (by assumption)))
            (first
              | (go_at_call 10; refine (Two.answer hD0 x Y hxwf V hV.out).mono ?_; rintro e w6 ⟨rfl, hh6⟩)
              | (go_at_call 23; refine (Half.ranswer hD0 x Y hh6 V hV.out).mono ?_; rintro e w7' ⟨rfl, hT7⟩))
          have hT7x : Two b bm vo d ba bs (.slice au c0.owners.length cu) w5 (c.answer x Y) w7' := by assumption
          have HT7x := hid hT7x
          clear hh6 hT hD0 c0x c1x c2x hT7 hT7x
          have hT7 := HT7x.out
          have hTa := hT7
          clear hT7
          go_wp2_with fail
          refine (Two.yes hTa).mono ?_
          rintro e w8 ⟨v8, rfl, hi8, hT8⟩
          obtain ⟨a8, c8, rfl⟩ := hi8.shape
          have Hi8 := hid hi8
          clear hi8 hTa
          go_wp2_with fail
          refine (Two.ryes hT8).mono ?_
          rintro e w9 ⟨v9, rfl, hi9, hT9, hp9⟩
          obtain ⟨a9, c9, rfl⟩ := hi9.shape
          have Hs := hid (same_eq (Hi8.out.pure hp9) hi9)
          clear hi9 hp9 hT8
          go_wp2_with fail
          refine Hs.out.mono ?_
          rintro e w10 ⟨rfl, hp10⟩
          have hT10 := hT9.pure hp10
          have HT10 := hid hT10
          clear hp10 hT9 hT10 Hs Hi8
          obtain ⟨s, hs⟩ : ∃ s, s = (c.answer x Y).state := ⟨_, rfl⟩
          obtain ⟨V1, hV1⟩ : ∃ V1, V1 = (decide ((c.answer x Y).state = 1) && decide (now < (c.answer x Y).start + (c.answer x Y).term - 2 * (c.answer x Y).skew)) := ⟨_, rfl⟩
          have hv1 := hid hV1.symm
          have hv2 := hid (show (decide ((c.answer x Y).state = 1) && decide (ov - 1 < (c.answer x Y).start + (c.answer x Y).term - 2 * (c.answer x Y).skew)) = (s == 1) by rw [htimes.out.1, htimes.out.2.1, htimes.out.2.2, hov.out, ← hs, show decide (ov - 1 < ov) = true by simp; omega, Bool.and_true]; rw [Bool.eq_iff_iff]; simp)
          have hst := hid hs.symm
          clear hs hV1
          go_wp2_with fail
          refine (Two.state HT10.out s hst.out).mono ?_
          rintro e w11 ⟨rfl, hT11⟩
          go_wp2_with fail
          refine (Two.rstate hT11 s hst.out).mono ?_
          rintro e w12 ⟨rfl, hT12⟩
          clear hT11
          go_wp2_with fail
          refine (Two.valid hT12 now V1 hv1.out).mono ?_
          rintro e w13 ⟨rfl, hT13⟩
          clear hT12
          go_wp2_with fail
          refine (Two.rvalid hT13 now V1 hv1.out).mono ?_
          rintro e w14 ⟨rfl, hT14⟩
          clear hT13
          go_wp2_with fail
          refine (Two.over hT14 ov (by rw [htimes.out.1, htimes.out.2.1, htimes.out.2.2]; exact hov.out)).mono ?_
          rintro e w15 ⟨rfl, hT15⟩
          clear hT14
          go_wp2_with fail
          refine (Two.valid hT15 (ov - 1) (s == 1) hv2.out).mono ?_
          rintro e w16 ⟨rfl, hT16⟩
          clear hT15
          go_wp2_with fail
          refine (Two.rstate hT16 s hst.out).mono ?_
          rintro e w17 ⟨rfl, hT17⟩
          have HT17 := hid hT17
          clear hT16 hT17
          go_wp2
          go_roundw
          case rel => exact ⟨k + 1, (c.answer x Y), by omega, by go_num, HT17.out, hown.out, htimes.out⟩
          case measure => simp [RowKit.intOf]; omega
      · have hge : ((decide ((k : Int) < (len : Int))) && decide ((k : Int) < 40)) = false := by simp; omega
        have Hf := hid (fin.out _ hT.kept)
        clear hT
        by_cases h1 : (k : Int) < (len : Int)
        · have h2 : ¬ (k : Int) < 40 := by omega
          go_wp2
          go_ret
          exact ⟨rfl, Hf.out⟩
        · go_wp2
          go_ret
          exact ⟨rfl, Hf.out⟩
end Go.Proofs.Ytffafdkjgllpcaa
