/- law18's bags, as data. law18's one: a bag by a number. -/
import Derived.Test.YtdlpnhfgjficgaaGreatPut
namespace Go.Proofs.YtdlpnhfgjficgaaGreat
open Go.RowKit Go.Maps

def om (i : Nat) : Msg := ((1, 1 + (i : Int)), [113], [], 0)
def oneB (k : Nat) : Bag := ((List.range k).map om, if k = 0 then [] else [(1, (k : Int))], [])
theorem oneB_step : ∀ k, k < 7 → bput (oneB k) (om k) = oneB (k + 1)
  | 0, _ => by decide
  | 1, _ => by decide
  | 2, _ => by decide
  | 3, _ => by decide
  | 4, _ => by decide
  | 5, _ => by decide
  | 6, _ => by decide
  | _ + 7, h => by omega
theorem om_may : ∀ k, k < 7 → mmay (om k) = true
  | 0, _ => by decide
  | 1, _ => by decide
  | 2, _ => by decide
  | 3, _ => by decide
  | 4, _ => by decide
  | 5, _ => by decide
  | 6, _ => by decide
  | _ + 7, h => by omega
theorem om_new : ∀ k, k < 7 → chas (oneB k).2.1 (oneB k).2.2 (om k).1 = false
  | 0, _ => by decide
  | 1, _ => by decide
  | 2, _ => by decide
  | 3, _ => by decide
  | 4, _ => by decide
  | 5, _ => by decide
  | 6, _ => by decide
  | _ + 7, h => by omega
end Go.Proofs.YtdlpnhfgjficgaaGreat

namespace Go.Proofs.YtdlpnhfgjficgaaGreat
open Go.RowKit Go.Maps

theorem and7 (n : Int) : 0 ≤ bits .and .i64 n 7 ∧ bits .and .i64 n 7 ≤ 7 := by
  show 0 ≤ IntKind.i64.wrap ((BitVec.ofInt 64 n &&& BitVec.ofInt 64 7).toNat : Int) ∧ IntKind.i64.wrap ((BitVec.ofInt 64 n &&& BitVec.ofInt 64 7).toNat : Int) ≤ 7
  have hx : (BitVec.ofInt 64 n &&& BitVec.ofInt 64 7).toNat ≤ 7 := by
    rw [BitVec.toNat_and]
    exact Nat.le_trans Nat.and_le_right (by decide)
  rw [IntWalk.i64_in _ (by omega)]
  omega
def n7 (n : Int) : Nat := (bits .and .i64 n 7).toNat
theorem n7_eq (n : Int) : bits .and .i64 n 7 = (n7 n : Int) := by have := and7 n; unfold n7; omega
theorem n7_le (n : Int) : n7 n ≤ 7 := by have := and7 n; unfold n7; omega
theorem oneB_bd (k : Nat) : ∀ d ∈ (oneB k).2.1, 0 ≤ d.2 ∧ d.2 ≤ 1152921504606846976 ∨ 7 < k := by
  intro d hd
  by_cases h : 7 < k
  · exact .inr h
  · left
    unfold oneB at hd
    dsimp only at hd
    split at hd
    · simp at hd
    · simp at hd; subst hd; dsimp only; omega
theorem oneB_bd' {k : Nat} (h : k ≤ 7) : ∀ d ∈ (oneB k).2.1, 0 ≤ d.2 ∧ d.2 ≤ 1152921504606846976 := fun d hd => (oneB_bd k d hd).resolve_right (by omega)
theorem oneB_len (k : Nat) : (oneB k).1.length = k ∧ (oneB k).2.1.length ≤ 1 ∧ (oneB k).2.2.length = 0 := by
  unfold oneB
  refine ⟨by simp, ?_, rfl⟩
  dsimp only
  split <;> simp

theorem agg3 {a b c x y z : Value} (h : Value.agg #[a, b, c] = .agg #[x, y, z]) : a = x ∧ b = y ∧ c = z := by simpa using h
theorem set3 {w : World} {b : Nat} {t0 t1 t2 : Value} {T : TypeId} (hb : w.heap[b]? = some (.cells #[t0, t1, t2] T (0, 0))) (v0 v1 v2 : Value) :
    (((w.setCell ⟨b, 0, none⟩ v0).setCell ⟨b, 1, none⟩ v1).setCell ⟨b, 2, none⟩ v2).heap[b]? = some (.cells #[v0, v1, v2] T (0, 0)) := by
  have := block_setCell (block_setCell (block_setCell hb 0 v0) 1 v1) 2 v2
  simpa using this
theorem kept3 (w : World) (b : Nat) (v0 v1 v2 : Value) : Kept (fun k => k = b) w (((w.setCell ⟨b, 0, none⟩ v0).setCell ⟨b, 1, none⟩ v1).setCell ⟨b, 2, none⟩ v2) :=
  have h1 : Kept (fun k => k = b) w (w.setCell ⟨b, 0, none⟩ v0) := Kept.setCell (S := fun k => k = b) (Kept.refl _ w) (p := ⟨b, 0, none⟩) (fun _ => rfl) v0
  have h2 : Kept (fun k => k = b) w ((w.setCell ⟨b, 0, none⟩ v0).setCell ⟨b, 1, none⟩ v1) := Kept.setCell (S := fun k => k = b) h1 (p := ⟨b, 1, none⟩) (fun _ => rfl) v1
  Kept.setCell (S := fun k => k = b) h2 (p := ⟨b, 2, none⟩) (fun _ => rfl) v2
/-- The block b holds a bag. -/
def BagIn (w : World) (b : Nat) (g : Bag) (n : Nat) : Prop := ∃ v0 v1 v2, w.heap[b]? = some (.cells #[v0, v1, v2] 34 (0, 0)) ∧ BagAt w (.agg #[v0, v1, v2]) g ∧ BagFrom n (.agg #[v0, v1, v2])

end Go.Proofs.YtdlpnhfgjficgaaGreat

