/- slices.DeleteFunc at []int, of a slice of the call's own. -/
import Derived.Test.YtlamhobkmknnpaaSort
namespace Go.Proofs.Ytlamhobkmknnpaa
open Go.RowKit Go.Maps Go.Sort Go.Shelf

/-- A number that fits an int. -/
abbrev WI := {x : Int // (Lit.int .i64 x).wf = true}
def encW (x : WI) : Value := .int .i64 x.1
instance : Inhabited WI := ⟨⟨0, rfl⟩⟩
theorem encW_map : ∀ (l : List Int) (h : AllWf l), (l.attach.map fun x => (⟨x.1, h x.1 x.2⟩ : WI)).map encW = l.map (Value.int .i64) := by
  intro l h
  rw [List.map_map]
  have : ((fun x : {x // x ∈ l} => encW ⟨x.1, h x.1 x.2⟩)) = fun x : {x // x ∈ l} => Value.int .i64 x.1 := rfl
  show l.attach.map (fun x => Value.int .i64 x.1) = _
  rw [List.attach_map_val (f := Value.int .i64)]
def toW (l : List Int) (h : AllWf l) : List WI := l.attach.map fun x => ⟨x.1, h x.1 x.2⟩
theorem toW_val (l : List Int) (h : AllWf l) : (toW l h).map (·.1) = l := by
  unfold toW; rw [List.map_map]; show l.attach.map (fun x => x.1) = l; simp
theorem toW_len (l : List Int) (h : AllWf l) : (toW l h).length = l.length := by simp [toW]
theorem filter_val (L : List WI) (p : Int → Bool) : (L.filter fun x => p x.1).map (·.1) = (L.map (·.1)).filter p := by
  induction L with
  | nil => rfl
  | cons a L ih => by_cases h : p a.1 = true <;> simp [h, ih]
theorem encW_val (L : List WI) : L.map encW = (L.map (·.1)).map (Value.int .i64) := by rw [List.map_map]; rfl

theorem holds_enc {α : Type} [Inhabited α] {enc : α → Value} {w : World} {g : Nat} {cur : Array Value} {e : TypeId} {ss : List α} (hb : w.heap[g]? = some (.cells cur e (0, 0))) (ht : cur.toList.take ss.length = ss.map enc) : Holds enc w g 0 ss.toArray := by
  intro j hj
  have hj' : j < ss.length := by simpa using hj
  refine ⟨?_, by simp [World.frozen?, hb]⟩
  have h1 : (cur.toList.take ss.length)[j]? = (ss.map enc)[j]? := by rw [ht]
  rw [List.getElem?_take_of_lt hj'] at h1
  simp only [World.cell?, hb, Nat.zero_add]
  simp only [Option.isSome_none, Bool.false_eq_true, if_false]
  rw [← Array.getElem?_toList, h1]
  simp [hj']
theorem heap_put {α : Type} [Inhabited α] {enc : α → Value} {w : World} {g n : Nat} {cur : Array Value} {e : TypeId} {fr : Nat × Nat} (d : Array α) (hb : w.heap[g]? = some (.cells cur e fr)) :
    (putRow enc (Sort.ahead w n) g 0 d).heap[g]? = some (.cells (putCells enc 0 d cur) e fr) := by
  simp [putRow, mapBlock, Sort.ahead, Array.getElem?_modify, hb, onCells]
theorem grownBy_put {α : Type} [Inhabited α] {enc : α → Value} {w : World} {g n : Nat} (d : Array α) : w.grownBy (putRow enc (Sort.ahead w n) g 0 d) (some g) := by
  refine ⟨rfl, rfl, rfl, by simp, fun k hk hne => ?_⟩
  have : g ≠ k := fun e => hne (by rw [e])
  simp [putRow, mapBlock, Sort.ahead, Array.getElem?_modify, this]
theorem take_put {α : Type} [Inhabited α] {enc : α → Value} (cur : Array Value) (ts us : List α) (h : ts.length + us.length ≤ cur.size) : (putCells enc 0 (ts ++ us).toArray cur).toList.take ts.length = ts.map enc := by
  apply List.ext_getElem?
  intro j
  by_cases hj : j < ts.length
  · rw [List.getElem?_take_of_lt hj, Array.getElem?_toList]
    have h1 : j < cur.size := by omega
    have h2 : j < ts.length + us.length := by omega
    simp [putCells, h1, h2, hj]
  · rw [List.getElem?_take_eq_none (by omega), List.getElem?_eq_none (by simp; omega)]

set_option maxHeartbeats 1000000 in
theorem del_own (base : Nat) (v : Value) (l : List Int) (w : World) (h : w.ownsRow base 3 1 v l.length (l.map (Value.int .i64))) (hl : l.length ≤ 1000000) (hwf : AllWf l) (p : Int → Bool) (g : Nat) (lb : Array Value)
    (eg : ∀ args w, (callFunc g args).run Try.prog w = .ok (.enter g args) w)
    (hp : ∀ (W : World) (x : Int), (Lit.int .i64 x).wf = true → (∀ k, k < w.heap.size → some k ≠ v.ownBlock → W.heap[k]? = w.heap[k]?) → Calls Try.prog g (#[.int .i64 x] ++ lb) W fun e w' => e = .returned (.bool (p x)) ∧ ∃ q, w' = W.drewN q) :
    Calls Try.prog 36 #[v, .func (.func g) #[] lb] w fun e w' => ∃ v', e = .returned v' ∧ w'.ownsRow base 3 1 v' (l.filter fun x => !p x).length ((l.filter fun x => !p x).map (Value.int .i64)) ∧ w.grownBy w' v.ownBlock := by
  obtain ⟨hlen, ⟨rfl, h0⟩ | ⟨gb, cap, cur, rfl, hbase, hb, h1, h2, h3, h4⟩⟩ := h
  · obtain rfl : l = [] := List.eq_nil_of_length_eq_zero h0
    have hi := hid (Try.slices_IndexFunc_empty (α := WI) none 0 (.func (.func g) #[] lb) w)
    clear eg hp
    go_enter Try.func36, Try.ntmps36
    go_wp2_with (go_at_call 47; refine hi.out.mono ?_; rintro e w' ⟨rfl, rfl⟩)
    go_ret
    exact ⟨_, rfl, World.ownsRow_nil _ _ _ _, World.grownBy.refl _ _⟩
  · rw [Nat.mul_one] at h4 h3
    have hW : cur.toList.take (toW l hwf).length = (toW l hwf).map encW := by rw [toW_len, h4, encW_val, toW_val]
    have hH := holds_enc hb hW
    have hgiveA : PredAt Try.prog g lb encW (fun x => p x.1) w := fun W x hbl => hp W x.1 x.2 (fun k hk _ => hbl.block k hk)
    have hgiveO : PredOver Try.prog g lb encW (fun x => p x.1) gb 0 (toW l hwf).toArray.size w := fun n os dk x _ => hp _ x.1 x.2 (fun k hk hne => by
      have hkg : gb ≠ k := fun e => hne (by simp [Value.ownBlock, e])
      unfold sortWorld
      rw [heap_grow_old _ _ (by simpa using hk)]
      simp [putRow, mapBlock, Sort.ahead, Array.getElem?_modify, hkg])
    have hcon := Try.slices_DeleteFunc encW (fun _ => rfl) (fun x => p x.1) g lb eg ⟨0, rfl⟩ (fun w => zeroInt w) gb 0 cap (toW l hwf).toArray w hgiveA hgiveO hH (by simp [toW_len]; omega) (by simp [toW_len]; omega)
    have esz : (toW l hwf).toArray.size = l.length := by simp [toW_len]
    rw [esz] at hcon
    refine hcon.mono ?_
    rintro e w' ⟨rfl, q, rfl⟩
    have eF : ((toW l hwf).filter fun x => !p x.1).map (·.1) = l.filter fun x => !p x := by rw [filter_val (toW l hwf) (fun x => !p x), toW_val]
    have eL : ((toW l hwf).filter fun x => !p x.1).length = (l.filter fun x => !p x).length := by rw [← eF]; simp
    have hle := List.length_filter_le (fun x => !p x) l
    refine ⟨_, rfl, ?_, grownBy_put _⟩
    refine ⟨by simp, .inr ⟨gb, cap, _, ?_, hbase, heap_put _ hb, by omega, h2, by simp [putCells, h3], ?_⟩⟩
    · rw [eL]
    · rw [Nat.mul_one, ← eL, take_put _ _ _ (by simp; omega), encW_val, eF]
end Go.Proofs.Ytlamhobkmknnpaa
