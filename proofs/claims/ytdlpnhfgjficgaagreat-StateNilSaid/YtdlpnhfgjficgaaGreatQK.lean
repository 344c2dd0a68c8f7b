/- Contexts, in plain words: lengths of joins; made; what the laws lean on. -/
import Derived.Test.YtdlpnhfgjficgaaGreatMCm
namespace Go.Proofs.YtdlpnhfgjficgaaGreat
open Go.RowKit Go.Maps

theorem nodup_sub_len {α : Type} [DecidableEq α] : ∀ {l k : List α}, l.Nodup → (∀ x ∈ l, x ∈ k) → l.length ≤ k.length
  | [], _, _, _ => by simp
  | a :: l, k, h, hs => by
    obtain ⟨h1, h2⟩ := List.nodup_cons.1 h
    have ha := hs a (by simp)
    have := nodup_sub_len (k := k.erase a) h2 (fun x hx => (List.mem_erase_of_ne (fun (e : x = a) => h1 (by rw [← e]; exact hx))).2 (hs x (List.mem_cons_of_mem _ hx)))
    rw [List.length_erase_of_mem ha] at this
    have h0 : 0 < k.length := List.length_pos_of_mem ha
    simp only [List.length_cons]; omega
theorem rise_nodup {l : List Dot} (h : Rise l) : l.Nodup := List.Pairwise.imp (R := DL) (S := fun a b => a ≠ b) (fun {a b} hab (e : a = b) => DL.irrefl a (by rw [← e] at hab; exact hab)) h
theorem flat_len1 {α β : Type} (f : α → List β) (hf : ∀ x, (f x).length ≤ 1) : ∀ l : List α, (l.flatMap f).length ≤ l.length
  | [] => by simp
  | a :: l => by
    have := flat_len1 f hf l
    have := hf a
    simp only [List.flatMap_cons, List.length_append, List.length_cons]; omega
theorem cnodes_len' (B C : List Dot) : (cnodes B C).length ≤ B.length + C.length := cnodes_len B C
theorem cjoin_len {aB aC bB bC : List Dot} (ha : CWk aB aC) (hb : CWk bB bC) : (cjoin aB aC bB bC).1.length ≤ aB.length + bB.length + (aC.length + bC.length) ∧ (cjoin aB aC bB bC).2.length ≤ aC.length + bC.length := by
  constructor
  · rw [cjoin_eq]
    refine Nat.le_trans (flat_len1 _ (fun x => ?_) _) (Nat.le_trans (cnodes_len _ _) (by simp))
    split <;> simp
  · have hr := (cjoin_ok ha hb).1.cr
    have := nodup_sub_len (rise_nodup hr) (k := aC ++ bC) (fun d hd => by
      obtain ⟨x, _, hx⟩ := jcloud_mem.1 hd
      exact ((jx ha hb x).2.2.2.1 d hx).1)
    simpa using this
theorem COk.one {d : Dot} (h : dok d) : COk [d] [] := ⟨List.pairwise_singleton _ _, by simpa using h, List.Pairwise.nil, by simp, by simp⟩
theorem CWk.cloud {C : List Dot} (h : ∀ d ∈ C, dok d) : CWk [] C := ⟨List.Pairwise.nil, by simp, h⟩
/-- made, name by name. -/
def mstep (s : List Dot × List Dot) (d : Dot) : List Dot × List Dot := if dchk d then cjoin s.1 s.2 [d] [] else s
def mfold (B : List Dot) : List Dot × List Dot := B.foldl mstep ([], [])
def madeC (B C : List Dot) : List Dot × List Dot := cjoin (mfold (B.take 12)).1 (mfold (B.take 12)).2 [] (dsort ((C.take 12).filter dchk))
theorem mfold_take (B : List Dot) (k : Nat) (h : k < B.length) : mfold (B.take (k + 1)) = mstep (mfold (B.take k)) (B.getD k (0, 0)) := by
  unfold mfold; rw [take_succ_d B k h, List.foldl_append]; rfl
theorem mfold_ok (B : List Dot) : ∀ k, k ≤ B.length → COk (mfold (B.take k)).1 (mfold (B.take k)).2 ∧ (mfold (B.take k)).1.length ≤ k ∧ (mfold (B.take k)).2.length = 0
  | 0, _ => by simp only [List.take_zero]; exact ⟨COk.nil, by simp [mfold], rfl⟩
  | k + 1, h => by
    obtain ⟨h1, h2, h3⟩ := mfold_ok B k (by omega)
    rw [mfold_take B k (by omega)]
    unfold mstep
    split
    · rename_i hc
      have hd := dchk_iff.1 hc
      have hl := cjoin_len h1.wk (COk.one hd).wk
      refine ⟨(cjoin_ok h1.wk (COk.one hd).wk).1, ?_, ?_⟩ <;> simp only [List.length_cons, List.length_nil] at hl <;> omega
    · exact ⟨h1, by omega, h3⟩
theorem adds_ok (l : List Dot) : ∀ d ∈ dsort (l.filter dchk), dok d := fun d hd => dchk_iff.1 (List.mem_filter.1 (((dsort_spec _).2 d).1 hd)).2
theorem madeC_ok (B C : List Dot) : COk (madeC B C).1 (madeC B C).2 ∧ (madeC B C).1.length ≤ 24 ∧ (madeC B C).2.length ≤ 12 := by
  have hm : COk (mfold (B.take 12)).1 (mfold (B.take 12)).2 ∧ (mfold (B.take 12)).1.length ≤ 12 ∧ (mfold (B.take 12)).2.length = 0 := by
    have h := mfold_ok (B.take 12) (B.take 12).length (Nat.le_refl _)
    rw [List.take_length] at h
    have : (B.take 12).length ≤ 12 := by rw [List.length_take]; omega
    exact ⟨h.1, by omega, h.2.2⟩
  have hk := CWk.cloud (adds_ok (C.take 12))
  have hl := cjoin_len hm.1.wk hk
  have h3 : (dsort ((C.take 12).filter dchk)).length ≤ 12 := Nat.le_trans (dsort_len _) (Nat.le_trans (List.length_filter_le _ _) (by rw [List.length_take]; omega))
  simp only [List.length_nil] at hl
  exact ⟨(cjoin_ok hm.1.wk hk).1, by unfold madeC; omega, by unfold madeC; omega⟩
end Go.Proofs.YtdlpnhfgjficgaaGreat
