/- Plain facts on lists and numbers. No program is named here. -/
import Derived.Test.YtdlpnhfgjficgaaGreatBase
namespace Go.Proofs.YtdlpnhfgjficgaaGreat
open Go.RowKit

theorem ret_int {k : IntKind} {a b : Int} (h : a = b) : Ending.returned (.int k a) = .returned (.int k b) := by rw [h]
theorem ret_bool {a b : Bool} (h : a = b) : Ending.returned (.bool a) = .returned (.bool b) := by rw [h]

/-- Each number once, the first time, behind acc. -/
def ddo : List Int → List Int → List Int
  | acc, [] => acc
  | acc, x :: r => ddo (if x ∈ acc then acc else acc ++ [x]) r
def dd (l : List Int) : List Int := ddo [] l
theorem ddo_append : ∀ (l k acc : List Int), ddo acc (l ++ k) = ddo (ddo acc l) k
  | [], _, _ => rfl
  | x :: l, k, acc => by simp only [List.cons_append, ddo]; exact ddo_append l k _
theorem take_succ_get (l : List Int) (k : Nat) (h : k < l.length) : l.take (k + 1) = l.take k ++ [l.getD k 0] := by
  rw [List.take_succ_eq_append_getElem h]; simp [List.getD, h]
theorem dd_take (l : List Int) (k : Nat) (h : k < l.length) : dd (l.take (k + 1)) = if l.getD k 0 ∈ dd (l.take k) then dd (l.take k) else dd (l.take k) ++ [l.getD k 0] := by
  rw [take_succ_get l k h]; unfold dd; rw [ddo_append]; rfl
theorem ddo_len : ∀ (l acc : List Int), (ddo acc l).length ≤ acc.length + l.length
  | [], acc => by simp [ddo]
  | x :: l, acc => by
    unfold ddo; split
    · have := ddo_len l acc; simp; omega
    · have := ddo_len l (acc ++ [x]); simp at this ⊢; omega
theorem dd_len (l : List Int) : (dd l).length ≤ l.length := by have := ddo_len l []; simpa [dd] using this

/-- A set as a map to true. -/
def tr (l : List Int) : List (Int × Bool) := l.map fun x => (x, true)
theorem mlook_tr (l : List Int) (k : Int) : mlook (tr l) k = if k ∈ l then some true else none := by
  induction l with
  | nil => rfl
  | cons a l ih =>
    unfold mlook tr at *
    simp only [List.map_cons, List.find?_cons, List.mem_cons]
    by_cases h : a = k
    · subst h; simp
    · have h1 : ¬ k = a := fun e => h e.symm
      have h2 : (a == k) = false := by simpa using h
      simp only [h1, h2, false_or]; exact ih
theorem mput_tr (l : List Int) (k : Int) (h : k ∉ l) : mput (tr l) k true = tr (l ++ [k]) := by
  induction l with
  | nil => rfl
  | cons a l ih =>
    have h1 : ¬ a = k := fun e => h (by simp [e])
    have h2 : k ∉ l := fun e => h (by simp [e])
    simp only [tr, List.map_cons, mput, List.cons_append] at *
    rw [if_neg (by simpa using h1), ih h2]
theorem dec_mem_mlook (l : List Int) (k : Int) : (((mlook (tr l) k).map Value.bool).getD (.bool false)) = .bool (decide (k ∈ l)) := by
  rw [mlook_tr]; split <;> simp_all
theorem wf_i64 (x : Int) (h : -9223372036854775808 ≤ x ∧ x ≤ 9223372036854775807) : (Lit.int .i64 x).wf = true := WalkArith.wf_i64 (by omega)
def AllWf (l : List Int) : Prop := ∀ x ∈ l, (Lit.int .i64 x).wf = true
theorem AllWf.get {l : List Int} (h : AllWf l) {k : Nat} (hk : k < l.length) : (Lit.int .i64 (l.getD k 0)).wf = true := h _ (by simp [List.getD, hk])
theorem ownsRow_snoc {w : World} {base e : Nat} {v : Value} {l : List Int} {x : Int} (h : w.ownsRow base e 1 v (l.length + 1) (l.map (Value.int .i64) ++ [.int .i64 x])) : w.ownsRow base e 1 v (l ++ [x]).length ((l ++ [x]).map (Value.int .i64)) := by
  simpa using h
theorem info_parts {P : Program} {e : TypeId} {z : Value} {s b : Nat} (h : (P.info? e).map (fun i => (i.zero, i.size, i.bytes)) = some (some z, s, b)) : ∃ i, P.info? e = some i ∧ i.zero = some z ∧ i.size = s ∧ i.bytes = b := by
  cases hi : P.info? e with
  | none => simp [hi] at h
  | some i => simp [hi] at h; exact ⟨i, rfl, h.1, h.2.1, h.2.2⟩
theorem hnews_one {w : World} {v : Value} {T : TypeId} : ∀ (j : Nat) u, [v][j]? = some u → (w.alloc (.cells #[v] T)).cell? ((⟨w.heap.size, 0, none⟩ : Addr).add j) = some u := by
  intro j u hj
  match j, hj with
  | 0, hj => simp at hj; subst hj; simp [Addr.add]
end Go.Proofs.YtdlpnhfgjficgaaGreat
