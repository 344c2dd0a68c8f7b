/- The plain law of the two custodies. CustodyPlays: its steps, read to their cells; Safe; the state between calls. law18's CustodyPlays: the state between two steps; each call of both custodies, by it. -/
import Derived.Test.YtofengnbedebpaaM18a
import Derived.Test.YtofengnbedebpaaParts
import Derived.Test.YtofengnbedebpaaMarksP
import Derived.Deep.Slices
import Derived.Deep.Fields
import Derived.ChangeSame
import Derived.Test.YtofengnbedebpaaMarks
import Derived.Deep.CutBlock
namespace Go.Proofs.Ytofengnbedebpaa
open Go.RowKit Go.Maps

structure CI (n : Nat) (S R : CuS) : Prop where
  look : ∀ q, cfind S q = cfind R q
  sorted : (R.map (·.1)).Pairwise (· < ·)
  snd : (S.map (·.1)).Nodup
  len : R.length ≤ n
  lens : ∀ e ∈ R, e.2.2.length ≤ n
theorem CI.nil : CI 0 [] [] := ⟨fun _ => rfl, List.Pairwise.nil, List.nodup_nil, Nat.le_refl _, by simp⟩
theorem CI.up {n k : Nat} {S R : CuS} (h : CI n S R) (hk : n ≤ k) : CI k S R := ⟨h.look, h.sorted, h.snd, Nat.le_trans h.len hk, fun e he => Nat.le_trans (h.lens e he) hk⟩
theorem cset_nodup {S : CuS} (h : (S.map (·.1)).Nodup) (p : Int) (m : List UInt8) (l : List Int) : ((cset S p m l).map (·.1)).Nodup := by
  induction S with
  | nil => simp [cset]
  | cons e S ih =>
    simp only [List.map_cons, List.nodup_cons] at h
    by_cases h1 : e.1 = p
    · have h2 : (e.1 == p) = true := by simpa using h1
      simp only [cset, h2, if_true, List.map_cons, List.nodup_cons]
      rw [← h1]; exact h
    · have h2 : (e.1 == p) = false := by simpa using h1
      simp only [cset, h2, Bool.false_eq_true, if_false, List.map_cons, List.nodup_cons]
      refine ⟨fun hx => ?_, ih h.2⟩
      obtain ⟨f, hf, hfe⟩ := List.mem_map.1 hx
      rcases cset_mem h.2 f hf with rfl | ⟨hfm, _⟩
      · exact h1 hfe.symm
      · exact h.1 (by rw [← hfe]; exact List.mem_map.2 ⟨f, hfm, rfl⟩)
theorem CI.keys {n : Nat} {S R : CuS} (h : CI n S R) (x : Int) : x ∈ S.map (·.1) ↔ x ∈ R.map (·.1) := by
  have key : ∀ (T : CuS), x ∈ T.map (·.1) ↔ (cfind T x).isSome = true := fun T => by
    constructor
    · intro hx
      obtain ⟨e, he, rfl⟩ := List.mem_map.1 hx
      cases hc : cfind T e.1 with
      | none => exact absurd rfl (cfind_none hc e he)
      | some _ => rfl
    · intro hx
      obtain ⟨e, he⟩ := Option.isSome_iff_exists.1 hx
      exact List.mem_map.2 ⟨e, cfind_some he⟩
  rw [key, key, h.look]
theorem CI.parts {n : Nat} {S R : CuS} (h : CI n S R) : srt (S.map (·.1)) = R.map (·.1) := by
  have hnd : (R.map (·.1)).Nodup := h.sorted.imp fun {a b} h => Int.ne_of_lt h
  have hp : (S.map (·.1)).Perm (R.map (·.1)) := (List.perm_ext_iff_of_nodup h.snd hnd).2 h.keys
  have tr : ∀ a b c : Int, decide (a ≤ b) = true → decide (b ≤ c) = true → decide (a ≤ c) = true := fun a b c h1 h2 => by simp only [decide_eq_true_eq] at *; omega
  have tot : ∀ a b : Int, (decide (a ≤ b) || decide (b ≤ a)) = true := fun a b => by simp only [Bool.or_eq_true, decide_eq_true_eq]; omega
  refine List.Perm.eq_of_pairwise (le := fun a b => decide (a ≤ b) = true) (fun a b _ _ h1 h2 => by simp only [decide_eq_true_eq] at h1 h2; omega) ?_ (h.sorted.imp fun {a b} h => by simp only [decide_eq_true_eq]; omega) ((show (srt (S.map (·.1))).Perm _ from List.mergeSort_perm _ _).trans hp)
  exact List.pairwise_mergeSort tr tot _
theorem CI.lack {n : Nat} {S R : CuS} (h : CI n S R) (p : Int) (o : List Int) : clack S p o = clack R p o := by unfold clack; rw [h.look]
theorem CI.mark {n : Nat} {S R : CuS} (h : CI n S R) (p : Int) : cmark S p = cmark R p := by unfold cmark; rw [h.look]
theorem CI.set {n : Nat} {S R : CuS} (h : CI n S R) {p : Int} {e : CEnt} (he : cfind R p = some e) (m : List UInt8) (l : List Int) (hl : l.length ≤ n + 1) : CI (n + 1) (cset S p m l) (cset R p m l) := by
  have hnd : (R.map (·.1)).Nodup := h.sorted.imp fun {a b} h => Int.ne_of_lt h
  have hk := cset_keys (S := R) (p := p) m l ⟨e, cfind_some he⟩
  refine ⟨fun q => by rw [cset_find, cset_find, h.look], by rw [hk]; exact h.sorted, cset_nodup h.snd p m l, ?_, ?_⟩
  · have := congrArg List.length hk
    have h2 := h.len
    simp at this; omega
  · intro f hf
    rcases cset_mem hnd f hf with rfl | ⟨hfm, _⟩
    · exact hl
    · exact Nat.le_trans (h.lens f hfm) (by omega)
theorem CI.heard {n : Nat} {S R : CuS} (h : CI n S R) (p node : Int) (m : List UInt8) : (cheard S p node m).2 = (cheard R p node m).2 ∧ CI (n + 1) (cheard S p node m).1 (cheard R p node m).1 := by
  unfold cheard
  rw [h.look]
  cases he : cfind R p with
  | none => exact ⟨rfl, h.up (by omega)⟩
  | some e =>
    dsimp only
    split
    · refine ⟨rfl, h.set he _ _ ?_⟩
      have := h.lens e (cfind_some he).1
      simp; omega
    · exact ⟨rfl, h.up (by omega)⟩
theorem cfind_append (A B : CuS) (q : Int) : cfind (A ++ B) q = (cfind A q).or (cfind B q) := by unfold cfind; rw [List.find?_append]
theorem CI.keep {n : Nat} {S R R' : CuS} {b : Bool} (h : CI n S R) {p : Int} {m : List UInt8} {emp : Bool} (hk : RKR R p m emp b R') : b = (ckeep S p m emp).2 ∧ CI (n + 1) (ckeep S p m emp).1 R' := by
  unfold RKR RKeep ckeep at hk
  unfold ckeep
  rw [h.look]
  cases he : cfind R p with
  | some e =>
    rw [he] at hk
    dsimp only at hk ⊢
    obtain ⟨rfl, rfl⟩ := hk
    refine ⟨by split <;> rfl, ?_⟩
    split
    · exact h.up (by omega)
    · exact h.set he _ _ (by simp)
  | none =>
    rw [he] at hk
    dsimp only at hk ⊢
    obtain ⟨rfl, hk⟩ := hk
    refine ⟨by split <;> rfl, ?_⟩
    cases emp with
    | true =>
      obtain rfl : R' = R := by simpa using hk
      exact h.up (by omega)
    | false =>
      simp only [Bool.false_eq_true, if_false] at hk ⊢
      obtain ⟨k, hk, h1, h2, rfl⟩ := hk
      have hnp := cfind_none he
      have hlow : ∀ x ∈ (R.take k).map (·.1), x < p := fun x hx => by
        obtain ⟨e, he2, rfl⟩ := List.mem_map.1 hx
        have hne := hnp e (List.mem_of_mem_take he2)
        rcases h2 with rfl | h2
        · simp at he2
        · obtain ⟨j, hj, hje⟩ := List.mem_iff_getElem.1 he2
          have hj2 : j < k ∧ j < R.length := by simp at hj; omega
          rw [List.getElem_take] at hje
          have hkk : k - 1 < R.length := by omega
          have hgd : R.getD (k - 1) e0 = R[k - 1] := by simp [List.getD, hkk]
          rw [hgd] at h2
          rcases Nat.lt_or_ge j (k - 1) with hlt | hge
          · have := List.pairwise_iff_getElem.1 h.sorted j (k - 1) (by simpa using hj2.2) (by simpa using hkk) hlt
            simp only [List.getElem_map] at this
            rw [hje] at this
            omega
          · have : j = k - 1 := by omega
            subst this
            rw [hje] at h2
            omega
      refine ⟨fun q => ?_, ?_, cset_nodup h.snd p m [], ?_, ?_⟩
      · rw [cset_find, h.look, cfind_append]
        have hs : cfind R q = (cfind (R.take k) q).or (cfind (R.drop k) q) := by rw [← cfind_append, List.take_append_drop]
        by_cases hq : q = p
        · subst hq
          rw [if_pos rfl]
          rw [he] at hs
          have ht : cfind (R.take k) q = none := by
            cases hx : cfind (R.take k) q with
            | none => rfl
            | some _ => rw [hx] at hs; simp at hs
          rw [ht]
          simp [cfind]
        · rw [if_neg hq, hs]
          have : cfind ((p, m, []) :: R.drop k) q = cfind (R.drop k) q := by
            have h0 : (p == q) = false := by simpa using fun e => hq e.symm
            simp [cfind, h0]
          rw [this]
      · have hs := h.sorted
        rw [← List.take_append_drop k R, List.map_append, List.pairwise_append] at hs
        rw [List.map_append, List.map_cons, List.pairwise_append]
        refine ⟨hs.1, List.pairwise_cons.2 ⟨fun x hx => ?_, hs.2.1⟩, fun x hx y hy => ?_⟩
        · obtain ⟨e, he2, rfl⟩ := List.mem_map.1 hx
          exact h1 e he2
        · rcases List.mem_cons.1 hy with rfl | hy
          · exact hlow x hx
          · exact hs.2.2 x hx y hy
      · have := h.len
        simp; omega
      · intro e he2
        rw [List.mem_append, List.mem_cons] at he2
        rcases he2 with he2 | rfl | he2
        · exact Nat.le_trans (h.lens e (List.mem_of_mem_take he2)) (by omega)
        · simp
        · exact Nat.le_trans (h.lens e (List.mem_of_mem_drop he2)) (by omega)
end Go.Proofs.Ytofengnbedebpaa

namespace Go.Proofs.Ytofengnbedebpaa
open Go.RowKit Go.Maps Go.ChangeShapes Go.WideShapes Go.Deep

/-- Kind, Part, Bag, Node, Mark. -/
structure CStep where
  kind : Int
  part : Int
  bag : Int
  node : Int
  mark : ByteArray
def cs0 : CStep := ⟨0, 0, 0, 0, ByteArray.empty⟩
instance : Inhabited CStep := ⟨cs0⟩
def StepsAt (w : World) (a : Option Addr) (len _cap : Nat) (l : List CStep) : Prop :=
  l.length = len ∧ len ≤ maxLen ∧ ∀ k, k < len → ∃ b off, a = some ⟨b, off, none⟩ ∧ b < w.heap.size ∧
    w.cell? ⟨b, off + k * 5, none⟩ = some (.int .i64 (l.getD k cs0).kind) ∧ w.cell? ⟨b, off + k * 5 + 1, none⟩ = some (.int .i64 (l.getD k cs0).part) ∧
    w.cell? ⟨b, off + k * 5 + 2, none⟩ = some (.int .i64 (l.getD k cs0).bag) ∧ w.cell? ⟨b, off + k * 5 + 3, none⟩ = some (.int .i64 (l.getD k cs0).node) ∧
    w.cell? ⟨b, off + k * 5 + 4, none⟩ = some (.string (l.getD k cs0).mark)
set_option maxRecDepth 8000 in
theorem steps_of_trod {H : Type} {enc : TypeId × Value → H} {W : World} {base : Nat} {held : Bool} {a : Option Addr} {len cap fuel : Nat} {x : DataW H × List MemPlace}
    (h : DataW.trod enc Try.prog W base (fun _ => true) held fuel 50 [.slice a len cap] = some x) : ∃ l, StepsAt W a len cap l := by
  rcases open_slice Try.underlying50 h with ⟨hcs, _⟩ | ⟨ad, len', cap', m, n, D, Pl, hcs, _, hl, hm, hmm, _, hi⟩
  · simp at hcs
    obtain ⟨rfl, rfl, rfl⟩ := hcs
    exact ⟨[], rfl, Nat.zero_le _, fun k hk => absurd hk (Nat.not_lt_zero _)⟩
  · simp at hcs
    obtain ⟨rfl, rfl, rfl⟩ := hcs
    simp only [if_true] at hmm
    subst hmm
    have hC : Try.prog.cellsOf 56 = 5 := by kernel_rfl
    have hC3 : Try.prog.cellsOf 3 = 1 := by kernel_rfl
    have hC4 : Try.prog.cellsOf 9 = 1 := by kernel_rfl
    obtain ⟨f, hf⟩ := choose_lt (α := CStep) (n := m) (p := fun k t => W.cell? (ad.add (k * 5)) = some (.int .i64 t.kind) ∧ W.cell? (ad.add (k * 5 + 1)) = some (.int .i64 t.part) ∧ W.cell? (ad.add (k * 5 + 2)) = some (.int .i64 t.bag) ∧ W.cell? (ad.add (k * 5 + 3)) = some (.int .i64 t.node) ∧ W.cell? (ad.add (k * 5 + 4)) = some (.string t.mark)) (fun k hk => by
      obtain ⟨cs', hc, ht⟩ := hi k hk
      rw [hC] at hc
      obtain ⟨_, hcl, hat⟩ := World.cells?_some hc
      obtain ⟨ys, n', _, _, _, hyl, hg⟩ := DataW.trod_struct Try.underlying56 ht
      match cs', hcl with
      | [c0, c1, c2, c3, c4], _ =>
        match ys, hyl with
        | [y0, y1, y2, y3, y4], _ =>
          have g0 : DataW.trod enc Try.prog W base (fun _ => true) held n' 3 (List.take (Try.prog.cellsOf 3) [c0, c1, c2, c3, c4]) = some y0 := hg 0 _ rfl
          have g1 : DataW.trod enc Try.prog W base (fun _ => true) held n' 3 (List.take (Try.prog.cellsOf 3) [c1, c2, c3, c4]) = some y1 := hg 1 _ rfl
          have g2 : DataW.trod enc Try.prog W base (fun _ => true) held n' 3 (List.take (Try.prog.cellsOf 3) [c2, c3, c4]) = some y2 := hg 2 _ rfl
          have g3 : DataW.trod enc Try.prog W base (fun _ => true) held n' 3 (List.take (Try.prog.cellsOf 3) [c3, c4]) = some y3 := hg 3 _ rfl
          have g4 : DataW.trod enc Try.prog W base (fun _ => true) held n' 9 (List.take (Try.prog.cellsOf 9) [c4]) = some y4 := hg 4 _ rfl
          rw [hC3] at g0 g1 g2 g3
          rw [hC4] at g4
          simp only [List.take_succ_cons, List.take_zero] at g0 g1 g2 g3 g4
          obtain ⟨z0, e0, _⟩ := DataW.trod_int Try.underlying3 g0
          obtain ⟨z1, e1, _⟩ := DataW.trod_int Try.underlying3 g1
          obtain ⟨z2, e2, _⟩ := DataW.trod_int Try.underlying3 g2
          obtain ⟨z3, e3, _⟩ := DataW.trod_int Try.underlying3 g3
          obtain ⟨z4, e4, _⟩ := DataW.trod_string Try.underlying9 g4
          simp only [List.cons.injEq, and_true] at e0 e1 e2 e3 e4
          subst e0; subst e1; subst e2; subst e3; subst e4
          have a0 := hat 0 (by decide)
          have a1 := hat 1 (by decide)
          have a2 := hat 2 (by decide)
          have a3 := hat 3 (by decide)
          have a4 := hat 4 (by decide)
          rw [Go.Deep.add_add] at a0 a1 a2 a3 a4
          exact ⟨⟨z0, z1, z2, z3, z4⟩, a0, a1, a2, a3, a4⟩)
    refine ⟨(List.range len).map f, by simp, Nat.le_trans hl hm, fun k hk => ?_⟩
    have hkm : k < m := by omega
    obtain ⟨c0, c1, c2, c3, c4⟩ := hf k hkm
    obtain ⟨b, off, spot⟩ := ad
    have hspot : spot = none := by simpa [Addr.add] using World.cell?_spot (hf 0 (by omega)).1
    subst hspot
    have e : ((List.range len).map f).getD k cs0 = f k := by simp [List.getD, hk]
    rw [e]
    rw [Addr.add_lit] at c0 c1 c2 c3 c4
    exact ⟨b, off, rfl, World.block_lt_of_cell? W _ c0, c0, by rw [Nat.add_assoc]; exact c1, by rw [Nat.add_assoc]; exact c2, by rw [Nat.add_assoc]; exact c3, by rw [Nat.add_assoc]; exact c4⟩

theorem RIn.pure {w w' : World} {r : Nat} {R : CuS} (h : RIn w r R) (hp : Pure w w') : RIn w' r R := by
  obtain ⟨vL, hv, h⟩ := h
  exact ⟨vL, hv, h.pure hp⟩
theorem RIn.kc {w w' : World} {base c r : Nat} {R : CuS} (h : RIn w r R) (hk : KC base c w w') (hc : c < r) : RIn w' r R := by
  obtain ⟨vL, hv, h⟩ := h
  exact ⟨vL, hv, h.kc hk hc⟩
/-- Safe, by the document's custody. -/
theorem CI.safe {n : Nat} {S R : CuS} (h : CI n S R) (hm : MOk S) (p : Int) (o : List Int) :
    ((cfind S p).isSome && decide ((clack S p o).length = 0)) = (decide (cmark R p ≠ []) && decide ((clack R p o).length = 0)) := by
  rw [h.lack, ← h.mark]
  congr 1
  unfold cmark
  cases he : cfind S p with
  | none => simp
  | some e =>
    have := hm.marks e (cfind_some he).1
    simp [this]
theorem MOk.heard {S : CuS} (h : MOk S) (p node : Int) (m : List UInt8) : MOk (cheard S p node m).1 := by
  unfold cheard
  cases he : cfind S p with
  | none => exact h
  | some e =>
    dsimp only
    split
    · have hx := cfind_some he
      refine ⟨cset_nodup h.nd _ _ _, ?_, ?_⟩
      · intro f hf
        rcases cset_mem h.nd f hf with rfl | ⟨hfm, _⟩
        · have := h.parts e hx.1
          rw [hx.2] at this; exact this
        · exact h.parts f hfm
      · intro f hf
        rcases cset_mem h.nd f hf with rfl | ⟨hfm, _⟩
        · exact h.marks e hx.1
        · exact h.marks f hfm
    · exact h
theorem MOk.keep {S : CuS} (h : MOk S) {p : Int} (h0 : 0 ≤ p) (h3 : p ≤ 3) {m : List UInt8} (hm : m ≠ []) (emp : Bool) : MOk (ckeep S p m emp).1 := by
  unfold ckeep
  cases he : cfind S p with
  | none =>
    dsimp only
    split
    · exact h
    · exact h.set h0 h3 hm
  | some e =>
    dsimp only
    split
    · exact h
    · exact h.set h0 h3 hm
end Go.Proofs.Ytofengnbedebpaa

namespace Go.Proofs.Ytofengnbedebpaa
open Go.RowKit Go.Maps Go.MapKept

theorem RIn.nil {w : World} : RIn (w.alloc (.cells #[.slice none 0 0] 54)) w.heap.size [] :=
  ⟨.slice none 0 0, fun _ => .slice none 0 0, block_alloc_new _ _, World.ownsRow_nil _ _ _ _, by simp, by simp, by simp, List.nodup_nil⟩
/-- The state between two steps. -/
structure CP (w0 : World) (n c r : Nat) (i : Nat) (S R : CuS) (W : World) : Prop where
  cu : Cu W n c S
  ri : RIn W r R
  ci : CI i S R
  ok : MOk S
  pu : Pure w0 W
theorem Pure.km {w a b : World} {r : Nat} (h : Pure w a) (k : KM r a b) (hb : w.heap.size ≤ r) : Pure w b :=
  h.trans ⟨k.os, k.tape, k.output, by have := k.size; have := h.size; omega, fun i hi => k.low i (by omega) (by have := h.size; omega)⟩


theorem CP.pure {w0 W W' : World} {n c r j : Nat} {S R : CuS} (h : CP w0 n c r j S R W) (hp : Pure W W') : CP w0 n c r j S R W' :=
  ⟨h.cu.pure hp, h.ri.pure hp, h.ci, h.ok, h.pu.then_ hp⟩
theorem CP.lenS {w0 W : World} {n c r j : Nat} {S R : CuS} (h : CP w0 n c r j S R W) : S.length = R.length := by
  have := congrArg List.length h.ci.parts
  unfold srt at this
  simpa [List.length_mergeSort] using this
/-- Behind both calls. -/
theorem CP.next {w0 W Wa Wb Wc : World} {n c r j : Nat} {S R S1 R1 : CuS} (h : CP w0 n c r j S R W) (hcr : c < r ∧ w0.heap.size ≤ n ∧ w0.heap.size ≤ r) (p1 : Pure W Wa) (hC : Cu Wb n c S1) (k1 : KC n c Wa Wb) (hR : RIn Wc r R1) (k2 : KM r Wb Wc) (hci : CI (j + 1) S1 R1) (hok : MOk S1) :
    CP w0 n c r (j + 1) S1 R1 Wc :=
  ⟨hC.km k2 hcr.1, hR, hci, hok, ((h.pu.then_ p1).kc k1 hcr.2.1).km k2 hcr.2.2⟩
def CPF (w0 : World) (n c r j : Nat) (W : World) : Prop := ∃ S R, CP w0 n c r j S R W
def CK (n c : Nat) (S1 : CuS) (b : Bool) (W : World) (e : Ending) (w' : World) : Prop := e = .returned (.bool b) ∧ Cu w' n c S1 ∧ KC n c W w'
def CF (w0 : World) (n c r j : Nat) (b : Bool) (e : Ending) (w' : World) : Prop := e = .returned (.bool b) ∧ CPF w0 n c r j w'
/-- Keep, of both. -/
theorem cp_keep {w0 W : World} {n c r j q kb : Nat} {S R : CuS} {v : Value} (h : CP w0 n c r j S R W) (hj : j ≤ 40) (hcr : c < r ∧ w0.heap.size ≤ n ∧ w0.heap.size ≤ r) (hq : q ≤ 3) (hk : kb ≤ 7) (hat : ∀ W', KC n c W W' → BagAt W' v (oneB kb)) :
    ∃ S1 b, (∀ W', Pure W W' → Calls Try.prog 12 #[.pointer (some ⟨c, 0, none⟩), .int .i64 q, v] W' (CK n c S1 b W')) ∧
      ∀ Wa Wb, Pure W Wa → Cu Wb n c S1 → KC n c Wa Wb → Calls Try.prog 20 #[.pointer (some ⟨r, 0, none⟩), .int .i64 q, v] Wb (CF w0 n c r (j + 1) b) := by
  have hl : R.length ≤ 1000 := by have := h.ci.len; omega
  refine ⟨(ckeep S q (mk kb) (decide (kb = 0))).1, (ckeep S q (mk kb) (decide (kb = 0))).2, fun W' hW => ?_, fun Wa Wb hp hC hK => ?_⟩
  · exact keep_to (h.cu.pure hW) (hat W' (KC.pure hW)) hk (wf_i64 _ (by omega)) rfl
  · refine (rkeep_any r R q v (oneB kb) Wb ((h.ri.pure hp).kc hK hcr.1) hl (hat Wb ((KC.pure hp).trans hK)) (oneB_small hk)).mono ?_
    rintro e w' ⟨b, R', rfl, hk1, hR, hm⟩
    rw [oneB_empty] at hk1
    obtain ⟨rfl, hci⟩ := h.ci.keep hk1
    exact ⟨rfl, _, _, h.next hcr hp hC hK hR hm hci (h.ok.keep (by omega) (by omega) (mk_ne kb hk) _)⟩
theorem bs_self (B : ByteArray) : ∃ m, B = bs m := ⟨B.data.toList, by cases B; simp [bs]⟩
/-- Heard, of both. -/
theorem cp_heard {w0 W : World} {n c r j q nq : Nat} {S R : CuS} (h : CP w0 n c r j S R W) (hj : j ≤ 40) (hcr : c < r ∧ w0.heap.size ≤ n ∧ w0.heap.size ≤ r) (hq : q ≤ 3) (hn : nq ≤ 3) (B : ByteArray) :
    ∃ S1 b, (∀ W', Pure W W' → Calls Try.prog 13 #[.pointer (some ⟨c, 0, none⟩), .int .i64 q, .int .i64 nq, .string B] W' (CK n c S1 b W')) ∧
      ∀ Wa Wb, Pure W Wa → Cu Wb n c S1 → KC n c Wa Wb → Calls Try.prog 21 #[.pointer (some ⟨r, 0, none⟩), .int .i64 q, .int .i64 nq, .string B] Wb (CF w0 n c r (j + 1) b) := by
  obtain ⟨m, rfl⟩ := bs_self B
  have hl : R.length ≤ 1000 := by have := h.ci.len; omega
  refine ⟨(cheard S q nq m).1, (cheard S q nq m).2, fun W' hW => ?_, fun Wa Wb hp hC hK => ?_⟩
  · exact heard_to (h.cu.pure hW) (wf_i64 _ (by omega)) (wf_i64 _ (by omega)) rfl
  · refine (rheard_any r R q nq m Wb ((h.ri.pure hp).kc hK hcr.1) hl (fun e he => by have := h.ci.lens e he; omega)).mono ?_
    rintro e w' ⟨rfl, hR, hm⟩
    obtain ⟨hb, hci⟩ := h.ci.heard q nq m
    exact ⟨by rw [hb], _, _, h.next hcr hp hC hK hR hm hci (h.ok.heard _ _ _)⟩
/-- Both parts. -/
theorem cp_parts {w0 W : World} {n c r j : Nat} {S R : CuS} (h : CP w0 n c r j S R W) (hj : j ≤ 41) :
    Calls Try.prog 19 #[.pointer (some ⟨c, 0, none⟩)] W fun e w' => ∃ a cap, e = .returned (.slice a R.length cap) ∧ Ints w' (.slice a R.length cap) (R.map (·.1)) ∧ Pure W w' := by
  have hl := h.ci.len
  have hs := h.lenS
  refine (cuparts_any n c S W h.cu (by omega)).mono ?_
  rintro e w' ⟨v', rfl, hown, hp⟩
  rw [h.ci.parts] at hown
  obtain ⟨a, cap, rfl⟩ := own_shape_d hown
  rw [List.length_map] at hown ⊢
  exact ⟨a, cap, rfl, by unfold Ints; rw [List.length_map]; exact Row.of_own hown, hp⟩
theorem cp_rparts {w0 W : World} {n c r j : Nat} {S R : CuS} (h : CP w0 n c r j S R W) (hj : j ≤ 41) :
    Calls Try.prog 22 #[.pointer (some ⟨r, 0, none⟩)] W fun e w' => ∃ a cap, e = .returned (.slice a R.length cap) ∧ Ints w' (.slice a R.length cap) (R.map (·.1)) ∧ Pure W w' := by
  have hl := h.ci.len
  obtain ⟨vL, hv, hR⟩ := h.ri
  refine (rparts_any r R vL hv W hR (by omega)).mono ?_
  rintro e w' ⟨v', rfl, hown, hp⟩
  obtain ⟨a, cap, rfl⟩ := own_shape_d hown
  rw [List.length_map] at hown ⊢
  exact ⟨a, cap, rfl, by unfold Ints; rw [List.length_map]; exact Row.of_own hown, hp⟩
theorem cp_lack {w0 W : World} {n c r j k : Nat} {S R : CuS} {v : Value} {F : List Int} (h : CP w0 n c r j S R W) (hk : k ≤ 4) (hv : Ints W v F) (hF : AllWf F) (hFl : F.length ≤ 8) :
    Calls Try.prog 15 #[.pointer (some ⟨c, 0, none⟩), .int .i64 k, v] W fun e w' => ∃ a cap, e = .returned (.slice a (clack R k F).length cap) ∧ Ints w' (.slice a (clack R k F).length cap) (clack R k F) ∧ Pure W w' := by
  refine (lack_to h.cu hv (p := k) (wf_i64 _ (by omega)) hF (by omega) (h.ci.lack k F)).mono ?_
  rintro e w' ⟨a, cap, rfl, hown, hp⟩
  exact ⟨a, cap, rfl, Row.of_own hown, hp⟩
theorem cp_rlack {w0 W : World} {n c r j k : Nat} {S R : CuS} {v : Value} {F : List Int} (h : CP w0 n c r j S R W) (hj : j ≤ 41) (hv : Ints W v F) (hFl : F.length ≤ 8) :
    Calls Try.prog 23 #[.pointer (some ⟨r, 0, none⟩), .int .i64 k, v] W fun e w' => ∃ a cap, e = .returned (.slice a (clack R k F).length cap) ∧ Ints w' (.slice a (clack R k F).length cap) (clack R k F) ∧ Pure W w' := by
  have hl := h.ci.len
  obtain ⟨vL, hv', hR⟩ := h.ri
  refine (rlack_any r R vL hv' k v F W hR (by omega) hv (by omega)).mono ?_
  rintro e w' ⟨v', rfl, hown, hp⟩
  obtain ⟨a, cap, rfl⟩ := own_shape_d hown
  exact ⟨a, cap, rfl, Row.of_own hown, hp⟩
theorem cp_mark {w0 W : World} {n c r j k : Nat} {S R : CuS} (h : CP w0 n c r j S R W) (hk : k ≤ 4) :
    Calls Try.prog 17 #[.pointer (some ⟨c, 0, none⟩), .int .i64 k] W fun e w' => e = .returned (.string (bs (cmark R k))) ∧ W = w' := by
  have := cumark_any n c S k W h.cu (wf_i64 _ (by omega))
  rw [h.ci.mark] at this
  exact this
theorem cp_rmark {w0 W : World} {n c r j k : Nat} {S R : CuS} (h : CP w0 n c r j S R W) (hj : j ≤ 41) :
    Calls Try.prog 24 #[.pointer (some ⟨r, 0, none⟩), .int .i64 k] W fun e w' => e = .returned (.string (bs (cmark R k))) ∧ W = w' := by
  have hl := h.ci.len
  obtain ⟨vL, hv', hR⟩ := h.ri
  exact rmark_any r R vL hv' k W hR (by omega)
theorem cp_safe {w0 W : World} {n c r j k : Nat} {S R : CuS} {v : Value} {F : List Int} (h : CP w0 n c r j S R W) (hk : k ≤ 4) (hv : Ints W v F) (hF : AllWf F) (hFl : F.length ≤ 8) :
    Calls Try.prog 16 #[.pointer (some ⟨c, 0, none⟩), .int .i64 k, v] W fun e w' => e = .returned (.bool (decide (cmark R k ≠ []) && decide ((clack R k F).length = 0))) ∧ Pure W w' := by
  have := cusafe_any n c S k v F W h.cu hv (wf_i64 _ (by omega)) hF (by omega)
  rw [h.ci.safe h.ok] at this
  exact this
end Go.Proofs.Ytofengnbedebpaa

