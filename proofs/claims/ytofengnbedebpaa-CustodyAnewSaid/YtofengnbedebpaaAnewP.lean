/- law18's CustodyAnew: what it reckons. -/
import Derived.Test.YtofengnbedebpaaApart
import Derived.Test.YtofengnbedebpaaBools
namespace Go.Proofs.Ytofengnbedebpaa
open Go.RowKit Go.Maps Go.MapKept

/-- Of the first i owners those that hear the second state. -/
def hs (o : List Int) (h : List Bool) (i : Nat) : List Int := dd ((((o.zip h).take i).filter (·.2)).map (·.1))
theorem zip_take (o : List Int) (h : List Bool) (i : Nat) (h1 : i < o.length) (h2 : i < h.length) : (o.zip h).take (i + 1) = (o.zip h).take i ++ [(o.getD i 0, h.getD i false)] := by
  rw [List.take_succ_eq_append_getElem (by rw [List.length_zip]; omega)]
  simp [List.getElem_zip, List.getD, h1, h2]
theorem hs_take (o : List Int) (h : List Bool) (i : Nat) (h1 : i < o.length) (h2 : i < h.length) : hs o h (i + 1) = if h.getD i false then (if o.getD i 0 ∈ hs o h i then hs o h i else hs o h i ++ [o.getD i 0]) else hs o h i := by
  unfold hs
  rw [zip_take o h i h1 h2, List.filter_append, List.map_append]
  cases hb : h.getD i false with
  | false => simp
  | true =>
    have e : ([(o.getD i 0, true)] : List (Int × Bool)).filter (·.2) = [(o.getD i 0, true)] := rfl
    rw [e]
    unfold dd
    rw [ddo_append]
    rfl
theorem ddo_sub (l : List Int) : ∀ acc x, x ∈ ddo acc l → x ∈ acc ∨ x ∈ l := by
  induction l with
  | nil => intro acc x h; exact .inl h
  | cons y l ih =>
    intro acc x h
    unfold ddo at h
    rcases ih _ x h with h | h
    · split at h
      · exact .inl h
      · rcases List.mem_append.1 h with h | h
        · exact .inl h
        · simp at h; subst h; exact .inr (by simp)
    · exact .inr (List.mem_cons_of_mem _ h)
theorem dd_mem18 (l : List Int) (x : Int) : x ∈ dd l ↔ x ∈ l := by
  constructor
  · intro h; rcases ddo_sub l [] x h with h | h
    · simp at h
    · exact h
  · intro h; exact ddo_mem l [] x (.inr h)
def an1 (m : List UInt8) (o : List Int) (i : Nat) : CuS := [(5, m, dd (o.take i))]
def an2 (m : List UInt8) (o : List Int) (h : List Bool) (i : Nat) : CuS := [(5, m, hs o h i)]
theorem an_keep1 (k : Nat) (hk : k ≠ 0) : ckeep [] 5 (mk k) (decide (k = 0)) = ([(5, mk k, [])], true) := by
  have : decide (k = 0) = false := by simpa using hk
  rw [this]; rfl
theorem an_keep2 (k : Nat) : ckeep [(5, mk k, [])] 5 (mk k) (decide (k = 0)) = ([(5, mk k, [])], false) := by
  simp [ckeep, cfind]
theorem an_keep3 (m : List UInt8) (o : List Int) (i k : Nat) (h : m ≠ mk k) : ckeep (an1 m o i) 5 (mk k) (decide (k = 0)) = ([(5, mk k, [])], true) := by
  simp [ckeep, cfind, an1, h, cset]
theorem an_heard1 (m : List UInt8) (o : List Int) (i : Nat) (hi : i < o.length) : (cheard (an1 m o i) 5 (o.getD i 0) m).1 = an1 m o (i + 1) := by
  unfold an1 cheard cfind
  rw [dd_take o i hi]
  by_cases hm : o.getD i 0 ∈ dd (o.take i)
  · simp only [List.find?_cons, BEq.rfl, hm]; simp
  · simp only [List.find?_cons, BEq.rfl, hm]; simp [cset]
theorem an_heard2 (m : List UInt8) (o : List Int) (h : List Bool) (i : Nat) (h1 : i < o.length) (h2 : i < h.length) (hh : h.getD i false = true) : (cheard (an2 m o h i) 5 (o.getD i 0) m).1 = an2 m o h (i + 1) := by
  unfold an2 cheard cfind
  rw [hs_take o h i h1 h2, hh, if_pos rfl]
  by_cases hm : o.getD i 0 ∈ hs o h i
  · simp only [List.find?_cons, BEq.rfl, hm]; simp
  · simp only [List.find?_cons, BEq.rfl, hm]; simp [cset]
theorem an_heard3 (m m' : List UInt8) (o : List Int) (h : List Bool) (i : Nat) (x : Int) (hne : m ≠ m') : cheard (an2 m o h i) 5 x m' = (an2 m o h i, false) := by
  unfold an2 cheard cfind
  simp [hne]
theorem an_skip (m : List UInt8) (o : List Int) (h : List Bool) (i : Nat) (h1 : i < o.length) (h2 : i < h.length) (hh : h.getD i false = false) : an2 m o h i = an2 m o h (i + 1) := by
  unfold an2; rw [hs_take o h i h1 h2, hh]; simp
theorem an_lack1 (m : List UInt8) (o : List Int) : clack (an1 m o o.length) 5 o = [] := by
  have hf : o.filter (fun x => decide (x ∉ dd o)) = [] := by
    rw [List.filter_eq_nil_iff]
    intro x hx
    have := (dd_mem18 o x).2 hx
    simp [this]
  unfold clack an1 cfind
  rw [List.take_length]
  simp only [List.find?_cons, BEq.rfl]; rw [hf]; rfl
theorem an_lack2 (m : List UInt8) (o : List Int) : clack [(5, m, [])] 5 o = dd o := by
  have e : o.filter (fun x => decide (x ∉ ([] : List Int))) = o := List.filter_eq_self.2 (by simp)
  unfold clack cfind
  simp only [List.find?_cons, BEq.rfl]
  rw [e]
/-- Those who lack it at the end. -/
def anL (o : List Int) (h : List Bool) (i : Nat) : List Int := dd (o.filter fun x => decide (x ∉ hs o h i))
theorem an_lack3 (m : List UInt8) (o : List Int) (h : List Bool) (i : Nat) : clack (an2 m o h i) 5 o = anL o h i := by
  unfold clack an2 cfind anL
  simp only [List.find?_cons, BEq.rfl]
theorem anL_mem (o : List Int) (h : List Bool) (i : Nat) (x : Int) (hx : x ∈ o) : decide (x ∈ anL o h i) = !decide (x ∈ hs o h i) := by
  unfold anL
  by_cases hm : x ∈ hs o h i
  · have : x ∉ dd (o.filter fun x => decide (x ∉ hs o h i)) := fun hc => by
      have := (dd_mem18 _ x).1 hc
      simp [hm] at this
    rw [decide_eq_false this, decide_eq_true hm]; rfl
  · have : x ∈ dd (o.filter fun x => decide (x ∉ hs o h i)) := (dd_mem18 _ x).2 (by simp [hx, hm])
    rw [decide_eq_true this, decide_eq_false hm]; rfl
theorem an_some (m : List UInt8) (o : List Int) (i : Nat) : (cfind (an1 m o i) 5).isSome = true := rfl
/-- Has x heard, as far as the first k tell? -/
def anH (o : List Int) (h : List Bool) (x : Int) (k : Nat) : Bool := ((o.zip h).take k).any fun p => p.2 && p.1 == x
theorem anH_take (o : List Int) (h : List Bool) (x : Int) (k : Nat) (h1 : k < o.length) (h2 : k < h.length) : anH o h x (k + 1) = (anH o h x k || (h.getD k false && o.getD k 0 == x)) := by
  unfold anH; rw [zip_take o h k h1 h2]; simp
theorem anH_hs (o : List Int) (h : List Bool) (x : Int) (k : Nat) : anH o h x k = decide (x ∈ hs o h k) := by
  rw [Bool.eq_iff_iff, decide_eq_true_iff]
  unfold hs
  rw [dd_mem18]
  simp only [anH, List.any_eq_true, Bool.and_eq_true, beq_iff_eq, List.mem_map, List.mem_filter]
  constructor
  · rintro ⟨p, hp, h1, h2⟩; exact ⟨p, ⟨hp, h1⟩, h2⟩
  · rintro ⟨p, ⟨hp, h1⟩, h2⟩; exact ⟨p, hp, h1, h2⟩
def anT (l : List Int) (x : Int) (k : Nat) : Bool := decide (x ∈ l.take k)
theorem anT_take (l : List Int) (x : Int) (k : Nat) (hk : k < l.length) : anT l x (k + 1) = (anT l x k || l.getD k 0 == x) := by
  unfold anT; rw [take_succ_get l k hk, Bool.eq_iff_iff]
  simp only [List.mem_append, List.mem_singleton, decide_eq_true_eq, Bool.or_eq_true, beq_iff_eq]
  constructor
  · rintro (h | h); · exact .inl h
    · exact .inr h.symm
  · rintro (h | h); · exact .inl h
    · exact .inr h.symm
end Go.Proofs.Ytofengnbedebpaa
