/- A custody, as data and in memory. -/
import Derived.Test.YtofengnbedebpaaEq2
namespace Go.Proofs.Ytofengnbedebpaa
open Go.RowKit Go.Maps Go.MapKept
open Go.ChangeMaps (setBlock)

/-- A part, its mark, who has heard it. -/
abbrev CEnt := Int × List UInt8 × List Int
abbrev CuS := List CEnt
def cfind (S : CuS) (p : Int) : Option CEnt := S.find? (fun e => e.1 == p)
def cset : CuS → Int → List UInt8 → List Int → CuS
  | [], p, m, h => [(p, m, h)]
  | e :: r, p, m, h => if e.1 == p then (p, m, h) :: r else e :: cset r p m h
def cmk (e : CEnt) : Int × List UInt8 := (e.1, e.2.1)
def cbl (bl : Int → Nat) (e : CEnt) : Int × Nat := (e.1, bl e.1)
theorem mlook_cmk (S : CuS) (p : Int) : mlook (S.map cmk) p = (cfind S p).map (·.2.1) := by
  induction S with
  | nil => rfl
  | cons e S ih =>
    unfold mlook cfind at *
    simp only [List.map_cons, List.find?_cons, cmk]
    by_cases h : (e.1 == p) = true
    · simp [h]
    · simp only [Bool.not_eq_true] at h
      simp only [h]; exact ih
theorem mlook_cbl (bl : Int → Nat) (S : CuS) (p : Int) : mlook (S.map (cbl bl)) p = (cfind S p).map (fun _ => bl p) := by
  induction S with
  | nil => rfl
  | cons e S ih =>
    unfold mlook cfind at *
    simp only [List.map_cons, List.find?_cons, cbl]
    by_cases h : (e.1 == p) = true
    · have : e.1 = p := by simpa using h
      simp [this]
    · simp only [Bool.not_eq_true] at h
      simp only [h]; exact ih
theorem mput_cmk (S : CuS) (p : Int) (m : List UInt8) (h : List Int) : mput (S.map cmk) p m = (cset S p m h).map cmk := by
  induction S with
  | nil => rfl
  | cons e S ih =>
    simp only [List.map_cons, mput, cset, cmk]
    by_cases he : (e.1 == p) = true
    · simp [he, cmk]
    · simp only [he, Bool.false_eq_true, if_false, List.map_cons, cmk]; rw [ih]
theorem cfind_none {S : CuS} {p : Int} (h : cfind S p = none) : ∀ e ∈ S, e.1 ≠ p := by
  intro e he
  have := List.find?_eq_none.1 h e he
  simpa using this
theorem cfind_some {S : CuS} {p : Int} {e : CEnt} (h : cfind S p = some e) : e ∈ S ∧ e.1 = p := by
  refine ⟨List.mem_of_find?_eq_some h, ?_⟩
  have := List.find?_some h
  simpa using this
theorem cset_new {S : CuS} {p : Int} (m : List UInt8) (h : List Int) (hn : ∀ e ∈ S, e.1 ≠ p) : cset S p m h = S ++ [(p, m, h)] := by
  induction S with
  | nil => rfl
  | cons e S ih =>
    have h1 : (e.1 == p) = false := by simpa using hn e (by simp)
    simp only [cset, h1, Bool.false_eq_true, if_false, List.cons_append]
    rw [ih (fun e he => hn e (by simp [he]))]
theorem cset_keys {S : CuS} {p : Int} (m : List UInt8) (h : List Int) (hn : ∃ e ∈ S, e.1 = p) : (cset S p m h).map (·.1) = S.map (·.1) := by
  induction S with
  | nil => simp at hn
  | cons e S ih =>
    by_cases h1 : e.1 = p
    · simp [cset, h1]
    · have h2 : (e.1 == p) = false := by simpa using h1
      simp only [cset, h2, Bool.false_eq_true, if_false, List.map_cons]
      rw [ih]
      obtain ⟨f, hf, hfp⟩ := hn
      rcases List.mem_cons.1 hf with rfl | hf
      · exact absurd hfp h1
      · exact ⟨f, hf, hfp⟩
theorem cset_mem {S : CuS} {p : Int} {m : List UInt8} {h : List Int} (hnd : (S.map (·.1)).Nodup) : ∀ e ∈ cset S p m h, e = (p, m, h) ∨ (e ∈ S ∧ e.1 ≠ p) := by
  induction S with
  | nil => intro e he; simp [cset] at he; exact .inl he
  | cons f S ih =>
    intro e he
    simp only [List.map_cons, List.nodup_cons] at hnd
    by_cases h1 : f.1 = p
    · simp only [cset, h1, BEq.rfl, if_true, List.mem_cons] at he
      rcases he with he | he
      · exact .inl he
      · refine .inr ⟨by simp [he], fun e2 => hnd.1 ?_⟩
        rw [h1, ← e2]; exact List.mem_map.2 ⟨e, he, rfl⟩
    · have h2 : (f.1 == p) = false := by simpa using h1
      simp only [cset, h2, Bool.false_eq_true, if_false, List.mem_cons] at he
      rcases he with he | he
      · subst he; exact .inr ⟨by simp, h1⟩
      · rcases ih hnd.2 e he with h | ⟨h, h'⟩
        · exact .inl h
        · exact .inr ⟨by simp [h], h'⟩
theorem cset_find (S : CuS) (p : Int) (m : List UInt8) (h : List Int) (q : Int) : cfind (cset S p m h) q = if q = p then some (p, m, h) else cfind S q := by
  induction S with
  | nil =>
    by_cases e : q = p
    · subst e; simp [cset, cfind]
    · have : (p == q) = false := by simpa using fun e' => e e'.symm
      simp [cset, cfind, this, e]
  | cons f S ih =>
    by_cases h1 : f.1 = p
    · simp only [cset, h1, BEq.rfl, if_true]
      by_cases e : q = p
      · subst e; simp [cfind]
      · have h3 : (p == q) = false := by simpa using fun e' => e e'.symm
        have h4 : (f.1 == q) = false := by rw [h1]; exact h3
        simp [cfind, h3, h4, e]
    · have h2 : (f.1 == p) = false := by simpa using h1
      simp only [cset, h2, Bool.false_eq_true, if_false]
      by_cases e : f.1 = q
      · have : ¬ q = p := fun e' => h1 (e.trans e')
        simp [cfind, e, this]
      · have h3 : (f.1 == q) = false := by simpa using e
        have l1 : cfind (f :: cset S p m h) q = cfind (cset S p m h) q := by simp [cfind, h3]
        have l2 : cfind (f :: S) q = cfind S q := by simp [cfind, h3]
        rw [l1, l2, ih]

def ckeep (S : CuS) (p : Int) (m : List UInt8) (empty : Bool) : CuS × Bool :=
  match cfind S p with
  | some e => if e.2.1 = m then (S, false) else (cset S p m [], true)
  | none => if empty then (S, false) else (cset S p m [], true)
def cheard (S : CuS) (p node : Int) (m : List UInt8) : CuS × Bool :=
  match cfind S p with
  | none => (S, false)
  | some e => if e.2.1 = m ∧ node ∉ e.2.2 then (cset S p e.2.1 (e.2.2 ++ [node]), true) else (S, false)
def clack (S : CuS) (p : Int) (o : List Int) : List Int :=
  match cfind S p with
  | none => []
  | some e => dd (o.filter fun x => decide (x ∉ e.2.2))
def cmark (S : CuS) (p : Int) : List UInt8 := ((cfind S p).map (·.2.1)).getD []

/-- What follows leaves alone: blocks below base; rows of cells but c. -/
structure KC (base c : Nat) (w w' : World) : Prop where
  os : w'.os = w.os
  tape : w'.tape = w.tape
  output : w'.output = w.output
  size : w.heap.size ≤ w'.heap.size
  low : ∀ k, k < base → k < w.heap.size → w'.heap[k]? = w.heap[k]?
  rows : ∀ k cs t f, k ≠ c → w.heap[k]? = some (.cells cs t f) → w'.heap[k]? = some (.cells cs t f)
namespace KC
variable {base c : Nat} {a b d : World}
theorem refl (base c : Nat) (w : World) : KC base c w w := ⟨rfl, rfl, rfl, Nat.le_refl _, fun _ _ _ => rfl, fun _ _ _ _ _ h => h⟩
theorem trans (h : KC base c a b) (k : KC base c b d) : KC base c a d :=
  ⟨k.os.trans h.os, k.tape.trans h.tape, k.output.trans h.output, Nat.le_trans h.size k.size, fun i hi hs => (k.low i hi (Nat.lt_of_lt_of_le hs h.size)).trans (h.low i hi hs), fun i cs t f hi hb => k.rows i cs t f hi (h.rows i cs t f hi hb)⟩
theorem pure (h : Pure a b) : KC base c a b :=
  ⟨h.os, h.tape, h.output, h.size, fun i _ hs => h.block i hs, fun i _ _ _ _ hb => (h.block i (lt_of_block hb)).trans hb⟩
theorem grown {m : Nat} (hg : a.grownBy b (some m)) (hm : base ≤ m) (hmap : ∃ es clock, a.heap[m]? = some (.map es clock)) : KC base c a b :=
  ⟨hg.os, hg.tape, hg.output, hg.size, fun i hi hs => hg.block i hs (fun e => by injection e with e; omega), fun i _ _ _ _ hb => (hg.block i (lt_of_block hb) (fun e => by
    have : i = m := by simpa using e
    subst this
    obtain ⟨es, clock, hm⟩ := hmap
    rw [hb] at hm; cases hm)).trans hb⟩
theorem below (h : KC base c a b) (hb : base ≤ a.heap.size) : Below base a b := ⟨h.os, h.tape, h.output, h.size, fun k hk => h.low k hk (by omega)⟩
theorem row {v : Value} {n size : Nat} {xs : List Value} (h : KC base c a b) (hr : Row a v n size xs) (hc : ∀ k, v.rb = some k → k ≠ c) : Row b v n size xs := by
  obtain ⟨hl, p, cap, rfl, h1, h2, h3⟩ := hr
  refine ⟨hl, p, cap, rfl, h1, h2, ?_⟩
  rcases h3 with h3 | ⟨g, off, rfl, hb, hcell⟩
  · exact .inl h3
  · by_cases h0 : cap = 0
    · exact .inl h0
    · refine .inr ⟨g, off, rfl, Nat.lt_of_lt_of_le hb h.size, fun i hi => ?_⟩
      have hx := hcell i hi
      have hxs : ∃ u, xs[i]? = some u := ⟨xs[i]'(by omega), List.getElem?_eq_getElem (by omega)⟩
      obtain ⟨u, hu⟩ := hxs
      rw [hu] at hx ⊢
      have hgc : g ≠ c := hc g (by simp [Value.rb, h0])
      cases ho : a.heap[g]? with
      | none => simp [World.cell?, ho] at hx
      | some o =>
        cases o with
        | cells cs t f =>
          have := h.rows g cs t f hgc ho
          rw [← hx]
          simp [World.cell?, ho, this]
        | _ => simp [World.cell?, ho] at hx
end KC
theorem BagAt.kc {base c : Nat} {w w' : World} {v : Value} {g : Bag} (h : BagAt w v g) (hk : KC base c w w') (h0 : ∀ v0 v1 v2, v = .agg #[v0, v1, v2] → (∀ k, v0.rb = some k → k ≠ c) ∧ (∀ k, v1.rb = some k → k ≠ c) ∧ ∀ k, v2.rb = some k → k ≠ c) : BagAt w' v g := by
  obtain ⟨v0, v1, v2, e, h1, h2, h3⟩ := h
  obtain ⟨n0, n1, n2⟩ := h0 v0 v1 v2 e
  exact ⟨v0, v1, v2, e, hk.row h1 n0, hk.row h2 n1, hk.row h3 n2⟩

section
variable {α : Type} {enc : α → Value} {w : World} {b : Nat} {m : List (Int × α)} {P : Program} {t kt e : TypeId}
theorem IMap.clear (h : IMap enc w b m) (ht : P.underlying t = some (.map kt e)) (ty : TypeId) :
    ∃ w', (Builtin.clear_ #[t] ty #[.map (some b)]).run P w = .ok (.tuple #[]) w' ∧ IMap enc w' b [] ∧ w.grownBy w' (some b) ∧ w'.heap.size = w.heap.size := by
  obtain ⟨es, clock, hb, _⟩ := h
  exact ⟨setBlock w b (.map #[] clock), by simp [Builtin.clear_, run_underlying ht, MapKept.run_getObj_map hb, MapKept.run_setObj_map _ hb, Result.andThen, setBlock], ⟨_, _, ChangeMaps.heap_setBlock_same hb _, stamped_empty _, by simp, rfl⟩, ⟨rfl, rfl, rfl, by simp [setBlock], fun i _ hi => ChangeMaps.heap_setBlock_other hb _ (fun e => hi (by rw [e]))⟩, by simp [setBlock]⟩
theorem IMap.isMap (h : IMap enc w b m) : ∃ es clock, w.heap[b]? = some (.map es clock) := by
  obtain ⟨es, clock, hb, _⟩ := h; exact ⟨es, clock, hb⟩
end
end Go.Proofs.Ytofengnbedebpaa
