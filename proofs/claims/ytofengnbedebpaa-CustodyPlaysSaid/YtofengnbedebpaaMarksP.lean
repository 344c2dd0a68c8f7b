/- law18's CustodyMarks: what it reckons. -/
import Derived.Test.YtofengnbedebpaaOneF
namespace Go.Proofs.Ytofengnbedebpaa
open Go.RowKit Go.Maps Go.MapKept

/-- Parts from 0 to 3, each once, each with a bag's mark. -/
structure MOk (S : CuS) : Prop where
  nd : (S.map (·.1)).Nodup
  parts : ∀ e ∈ S, 0 ≤ e.1 ∧ e.1 ≤ 3
  marks : ∀ e ∈ S, e.2.1 ≠ []
theorem MOk.nil : MOk [] := ⟨by simp, by simp, by simp⟩
theorem cset_keys_nodup {S : CuS} {p : Int} (m : List UInt8) (h : List Int) (hnd : (S.map (·.1)).Nodup) : ((cset S p m h).map (·.1)).Nodup := by
  by_cases hp : ∃ e ∈ S, e.1 = p
  · rw [cset_keys m h hp]; exact hnd
  · have hn : ∀ e ∈ S, e.1 ≠ p := fun e he h => hp ⟨e, he, h⟩
    rw [cset_new m h hn, List.map_append]
    refine List.nodup_append.2 ⟨hnd, by simp, fun a ha b hb e => ?_⟩
    simp at hb
    obtain ⟨f, hf, rfl⟩ := List.mem_map.1 ha
    exact hn f hf (e.trans hb)
theorem MOk.set {S : CuS} (h : MOk S) {p : Int} (h0 : 0 ≤ p) (h3 : p ≤ 3) {m : List UInt8} (hm : m ≠ []) : MOk (cset S p m []) := by
  refine ⟨cset_keys_nodup m [] h.nd, fun e he => ?_, fun e he => ?_⟩
  · rcases cset_mem h.nd e he with rfl | ⟨he, _⟩
    · exact ⟨h0, h3⟩
    · exact h.parts e he
  · rcases cset_mem h.nd e he with rfl | ⟨he, _⟩
    · exact hm
    · exact h.marks e he
theorem MOk.len {S : CuS} (h : MOk S) : S.length ≤ 4 := by
  have h1 : (S.map (·.1)).length ≤ ([0, 1, 2, 3] : List Int).length := List.Nodup.length_le_of_subset h.nd (fun x hx => by
    obtain ⟨e, he, rfl⟩ := List.mem_map.1 hx
    have := h.parts e he
    simp; omega)
  simpa using h1
theorem cmark_set (S : CuS) (p : Int) (m : List UInt8) (h : List Int) (q : Int) : cmark (cset S p m h) q = if q = p then m else cmark S q := by
  unfold cmark
  rw [cset_find]
  split <;> simp
theorem cmark_ne {S : CuS} (h : MOk S) (q : Int) : cmark S q ≠ [] ↔ ∃ e ∈ S, e.1 = q := by
  unfold cmark
  cases hf : cfind S q with
  | none =>
    simp only [Option.map_none, Option.getD_none, ne_eq, not_true_eq_false, false_iff]
    rintro ⟨e, he, hq⟩
    exact cfind_none hf e he hq
  | some e =>
    obtain ⟨h1, h2⟩ := cfind_some hf
    simp only [Option.map_some, Option.getD_some]
    exact ⟨fun _ => ⟨e, h1, h2⟩, fun _ => h.marks e h1⟩
/-- What the law says of a Keep. -/
def mOther (S : CuS) (p : Int) (m : List UInt8) (k : Nat) : Bool := decide (cmark S p ≠ m) && (decide (cmark S p ≠ []) || decide (k ≠ 0))
theorem ckeep_other {S : CuS} (h : MOk S) (p : Int) {m : List UInt8} (hm : m ≠ []) (k : Nat) : ckeep S p m (decide (k = 0)) = (if mOther S p m k then cset S p m [] else S, mOther S p m k) := by
  unfold ckeep mOther cmark
  cases hf : cfind S p with
  | none =>
    have : ([] : List UInt8) ≠ m := fun e => hm e.symm
    by_cases hk : k = 0 <;> simp [hk, this]
  | some e =>
    have he := h.marks e (cfind_some hf).1
    by_cases hem : e.2.1 = m <;> simp [hem, he, hm]
/-- What is kept behind it. -/
def mNext (S : CuS) (p : Int) (m : List UInt8) (k : Nat) : CuS := if mOther S p m k then cset S p m [] else S
theorem mNext_ok {S : CuS} (h : MOk S) {p : Int} (h0 : 0 ≤ p) (h3 : p ≤ 3) {m : List UInt8} (hm : m ≠ []) (k : Nat) : MOk (mNext S p m k) := by
  unfold mNext; split
  · exact h.set h0 h3 hm
  · exact h
theorem ckeep_again {S : CuS} (h : MOk S) {p : Int} (h0 : 0 ≤ p) (h3 : p ≤ 3) {m : List UInt8} (hm : m ≠ []) (k : Nat) : ckeep (mNext S p m k) p m (decide (k = 0)) = (mNext S p m k, false) := by
  have hf : mOther (mNext S p m k) p m k = false := by
    unfold mNext
    by_cases ho : mOther S p m k = true
    · rw [if_pos ho]; unfold mOther; rw [cmark_set, if_pos rfl]; simp
    · rw [if_neg ho]; simpa using ho
  rw [ckeep_other (mNext_ok h h0 h3 hm k) p hm k, hf]
  simp
/-- The law's own marks. -/
def mArr (S : CuS) : Array Value := #[.string (bs (cmark S 0)), .string (bs (cmark S 1)), .string (bs (cmark S 2)), .string (bs (cmark S 3))]
theorem mArr_get (S : CuS) : ∀ q : Nat, q ≤ 3 → (mArr S)[q]? = some (.string (bs (cmark S (q : Int))))
  | 0, _ => rfl
  | 1, _ => rfl
  | 2, _ => rfl
  | 3, _ => rfl
  | _ + 4, h => by omega
theorem mArr_set (S : CuS) (m : List UInt8) : ∀ q : Nat, q ≤ 3 → (mArr S).setIfInBounds q (.string (bs m)) = mArr (cset S (q : Int) m [])
  | 0, _ => by simp [mArr, cmark_set]
  | 1, _ => by simp [mArr, cmark_set]
  | 2, _ => by simp [mArr, cmark_set]
  | 3, _ => by simp [mArr, cmark_set]
  | _ + 4, h => by omega
/-- The parts that are kept, below q. -/
def mParts (S : CuS) (q : Nat) : List Int := ((List.range q).map fun i : Nat => (i : Int)).filter fun p => decide (cmark S p ≠ [])
theorem mParts_step (S : CuS) (q : Nat) : mParts S (q + 1) = if decide (cmark S (q : Int) ≠ []) then mParts S q ++ [(q : Int)] else mParts S q := by
  unfold mParts
  rw [List.range_succ, List.map_append, List.filter_append]
  simp only [List.map_cons, List.map_nil, List.filter_cons, List.filter_nil]
  split <;> simp
theorem mParts_len (S : CuS) (q : Nat) : (mParts S q).length ≤ q := by
  unfold mParts
  refine Nat.le_trans (List.length_filter_le _ _) ?_
  simp
theorem srt_parts {S : CuS} (h : MOk S) : srt (S.map (·.1)) = mParts S 4 := by
  have hp : (S.map (·.1)).Perm (mParts S 4) := by
    refine (List.perm_ext_iff_of_nodup h.nd ?_).2 (fun x => ?_)
    · unfold mParts
      exact List.Pairwise.filter _ (by decide)
    · unfold mParts
      simp only [List.mem_map, List.mem_filter, List.mem_range, decide_eq_true_eq]
      rw [cmark_ne h]
      constructor
      · rintro ⟨e, he, rfl⟩
        have := h.parts e he
        exact ⟨⟨e.1.toNat, by omega, by omega⟩, e, he, rfl⟩
      · rintro ⟨_, e, he, rfl⟩
        exact ⟨e, he, rfl⟩
  rw [srt_perm hp]
  unfold srt
  have hs : (mParts S 4).Pairwise (fun x y => decide (x ≤ y) = true) := by
    unfold mParts
    exact List.Pairwise.filter _ (by decide)
  first | exact List.mergeSort_of_pairwise hs | exact List.mergeSort_of_sorted hs
theorem Cu.setOther {w : World} {base c X : Nat} {S : CuS} (h : Cu w base c S) {cs : Array Value} {t : TypeId} {f : Nat × Nat} (hb : w.heap[X]? = some (.cells cs t f)) (hX : X ≠ c) (i : Nat) (v : Value) : Cu (w.setCell ⟨X, i, none⟩ v) base c S := by
  obtain ⟨mb, hh, bl, h⟩ := h
  have nm : ∀ {k : Nat}, (∃ es cl, w.heap[k]? = some (.map es cl)) → (w.setCell ⟨X, i, none⟩ v).heap[k]? = w.heap[k]? := fun {k} hm => Below.heap_setCell _ _ _ _ (fun e => by
    obtain ⟨es, cl, hk⟩ := hm
    have hb' : w.heap[k]? = some (.cells cs t f) := by rw [e]; exact hb
    rw [hb'] at hk; cases hk)
  exact ⟨mb, hh, bl, (Below.heap_setCell _ _ _ _ (fun e => hX (by subst e; rfl))).trans h.blk, h.marks.same (nm h.marks.isMap), h.heard.same (nm h.heard.isMap), fun e he => (h.sets e he).same (nm (h.sets e he).isMap), h.nd, h.ne, h.nem, h.inj, h.ge⟩
end Go.Proofs.Ytofengnbedebpaa
