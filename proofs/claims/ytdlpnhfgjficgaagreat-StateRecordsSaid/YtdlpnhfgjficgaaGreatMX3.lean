/- dot: Check, compare, Less. Contexts, in plain words: lengths of joins; made; what the laws lean on. -/
import Derived.Test.YtdlpnhfgjficgaaGreatMCm
import Derived.Test.YtdlpnhfgjficgaaGreatShelf
namespace Go.Proofs.YtdlpnhfgjficgaaGreat
open Go.RowKit Go.Maps Go.Shelf Go.Sort

/-- A world that has drawn and grown. -/
def Grew (w W : World) : Prop := ∃ q os, W = grow (w.drewN q) os
theorem Grew.refl (w : World) : Grew w w := ⟨0, #[], by rw [grow_empty]; rfl⟩
theorem Grew.alloc {w W : World} (h : Grew w W) (o : Obj) : Grew w (W.alloc o) := by
  obtain ⟨q, os, rfl⟩ := h
  exact ⟨q, os ++ #[o], by rw [alloc_eq_grow, grow_grow]⟩
theorem Grew.drew {w W : World} (h : Grew w W) : Grew w W.drew := by
  obtain ⟨q, os, rfl⟩ := h
  exact ⟨q + 1, os, rfl⟩
theorem Grew.pure {w W : World} (h : Grew w W) : Pure w W := by
  obtain ⟨q, os, rfl⟩ := h
  refine ⟨rfl, rfl, rfl, by simp [grow], fun k hk => ?_⟩
  show (w.heap ++ os)[k]? = _
  rw [Array.getElem?_append_left hk]

def CS (n : Nat) (x y u v : Int) (w W : World) : Prop := W.cell? ⟨n, 0, none⟩ = some (.int .i64 x) ∧ W.cell? ⟨n, 1, none⟩ = some (.int .i64 y) ∧ W.cell? ⟨n + 1, 0, none⟩ = some (.int .i64 u) ∧ W.cell? ⟨n + 1, 1, none⟩ = some (.int .i64 v) ∧ Grew w W
theorem CS.alloc {n : Nat} {x y u v : Int} {w W : World} (h : CS n x y u v w W) (o : Obj) : CS n x y u v w (W.alloc o) :=
  have hp : Pure W (W.alloc o) := (Below.refl _ _).alloc (Nat.le_refl _) o
  ⟨(hp.cell (World.block_lt_of_cell? W _ h.1)).trans h.1, (hp.cell (World.block_lt_of_cell? W _ h.2.1)).trans h.2.1, (hp.cell (World.block_lt_of_cell? W _ h.2.2.1)).trans h.2.2.1, (hp.cell (World.block_lt_of_cell? W _ h.2.2.2.1)).trans h.2.2.2.1, h.2.2.2.2.alloc o⟩
theorem CS.drew {n : Nat} {x y u v : Int} {w W : World} (h : CS n x y u v w W) : CS n x y u v w W.drew := ⟨h.1, h.2.1, h.2.2.1, h.2.2.2.1, h.2.2.2.2.drew⟩

end Go.Proofs.YtdlpnhfgjficgaaGreat

namespace Go.Proofs.YtdlpnhfgjficgaaGreat
open Go.RowKit Go.Maps

theorem nodup_sub_len {α : Type} [DecidableEq α] : ∀ {l k : List α}, l.Nodup → (∀ x ∈ l, x ∈ k) → l.length ≤ k.length
  | [], _, _, _ => by simp
  | a :: l, k, h, hs => by
    obtain ⟨h1, h2⟩ := List.nodup_cons.1 h
    have ha := hs a (by simp)
    have := nodup_sub_len (k := k.erase a) h2 (fun x hx => (List.mem_erase_of_ne (fun (e : x = a) => h1 (by rw [← e]; exact hx))).2 (hs x (List.mem_cons_of_mem _ hx)))
    rw [List.length_erase_of_mem ha] at this
    have h0 : 0 < k.length := List.length_pos_of_mem ha
    simp only [List.length_cons]; omega
theorem rise_nodup {l : List Dot} (h : Rise l) : l.Nodup := List.Pairwise.imp (R := DL) (S := fun a b => a ≠ b) (fun {a b} hab (e : a = b) => DL.irrefl a (by rw [← e] at hab; exact hab)) h
theorem flat_len1 {α β : Type} (f : α → List β) (hf : ∀ x, (f x).length ≤ 1) : ∀ l : List α, (l.flatMap f).length ≤ l.length
  | [] => by simp
  | a :: l => by
    have := flat_len1 f hf l
    have := hf a
    simp only [List.flatMap_cons, List.length_append, List.length_cons]; omega
theorem cjoin_len {aB aC bB bC : List Dot} (ha : CWk aB aC) (hb : CWk bB bC) : (cjoin aB aC bB bC).1.length ≤ aB.length + bB.length + (aC.length + bC.length) ∧ (cjoin aB aC bB bC).2.length ≤ aC.length + bC.length := by
  constructor
  · rw [cjoin_eq]
    refine Nat.le_trans (flat_len1 _ (fun x => ?_) _) (Nat.le_trans (cnodes_len _ _) (by simp))
    split <;> simp
  · have hr := (cjoin_ok ha hb).1.cr
    have := nodup_sub_len (rise_nodup hr) (k := aC ++ bC) (fun d hd => by
      obtain ⟨x, _, hx⟩ := jcloud_mem.1 hd
      exact ((jx ha hb x).2.2.2.1 d hx).1)
    simpa using this
theorem COk.one {d : Dot} (h : dok d) : COk [d] [] := ⟨List.pairwise_singleton _ _, by simpa using h, List.Pairwise.nil, by simp, by simp⟩
theorem CWk.cloud {C : List Dot} (h : ∀ d ∈ C, dok d) : CWk [] C := ⟨List.Pairwise.nil, by simp, h⟩
theorem adds_ok (l : List Dot) : ∀ d ∈ dsort (l.filter dchk), dok d := fun d hd => dchk_iff.1 (List.mem_filter.1 (((dsort_spec _).2 d).1 hd)).2
end Go.Proofs.YtdlpnhfgjficgaaGreat

