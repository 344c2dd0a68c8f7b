/- custody: New, Mark, Heard. -/
import Derived.Test.YtofengnbedebpaaCus
import Derived.WalkLawsBesides
namespace Go.Proofs.Ytofengnbedebpaa
open Go.RowKit Go.Maps Go.MapKept

def strV (l : List UInt8) : Value := .string (bs l)
def mapV (b : Nat) : Value := .map (some b)
structure CuAt (w : World) (base c : Nat) (S : CuS) (mb hb : Nat) (bl : Int → Nat) : Prop where
  blk : w.heap[c]? = some (.cells #[.map (some mb), .map (some hb)] 61 (0, 0))
  marks : IMap strV w mb (S.map cmk)
  heard : IMap mapV w hb (S.map (cbl bl))
  sets : ∀ e ∈ S, IMap Value.bool w (bl e.1) (tr e.2.2)
  nd : (S.map (·.1)).Nodup
  ne : mb ≠ hb
  nem : ∀ e ∈ S, bl e.1 ≠ mb ∧ bl e.1 ≠ hb
  inj : ∀ e ∈ S, ∀ f ∈ S, bl e.1 = bl f.1 → e.1 = f.1
  ge : base ≤ c ∧ base ≤ mb ∧ base ≤ hb ∧ ∀ e ∈ S, base ≤ bl e.1
theorem CuAt.pure {w w' : World} {base c : Nat} {S : CuS} {mb hb : Nat} {bl : Int → Nat} (h : CuAt w base c S mb hb bl) (hp : Pure w w') : CuAt w' base c S mb hb bl :=
  ⟨(hp.block _ (lt_of_block h.blk)).trans h.blk, h.marks.pure hp, h.heard.pure hp, fun e he => (h.sets e he).pure hp, h.nd, h.ne, h.nem, h.inj, h.ge⟩
def Cu (w : World) (base c : Nat) (S : CuS) : Prop := ∃ mb hb bl, CuAt w base c S mb hb bl
theorem Cu.pure {w w' : World} {base c : Nat} {S : CuS} (h : Cu w base c S) (hp : Pure w w') : Cu w' base c S := by
  obtain ⟨mb, hb, bl, h⟩ := h
  exact ⟨mb, hb, bl, h.pure hp⟩
theorem zeroStr (w : World) : (zeroValue 9).run Try.prog w = .ok (.string ⟨#[]⟩) w := by kernel_rfl
theorem zeroMapB (w : World) : (zeroValue 72).run Try.prog w = .ok (.map none) w := by kernel_rfl
theorem zeroBoolC (w : World) : (zeroValue 4).run Try.prog w = .ok (.bool false) w := by kernel_rfl

theorem CuAt.lookM {w : World} {base c : Nat} {S : CuS} {mb hb : Nat} {bl : Int → Nat} (h : CuAt w base c S mb hb bl) (p : Int) (hw : (Lit.int .i64 p).wf = true) :
    (Instr.lookup 58 (.map (some mb)) (.int .i64 p) false).run Try.prog w = .ok (.string (bs (cmark S p))) w := by
  have hl := h.marks.look (P := Try.prog) Try.underlying3 Try.underlying58 (zeroStr w) p hw false
  rw [hl, mlook_cmk]
  unfold cmark strV
  cases cfind S p <;> rfl
theorem CuAt.lookM2 {w : World} {base c : Nat} {S : CuS} {mb hb : Nat} {bl : Int → Nat} (h : CuAt w base c S mb hb bl) (p : Int) (hw : (Lit.int .i64 p).wf = true) :
    (Instr.lookup 58 (.map (some mb)) (.int .i64 p) true).run Try.prog w = .ok (.tuple #[.string (bs (cmark S p)), .bool (cfind S p).isSome]) w := by
  have hl := h.marks.look (P := Try.prog) Try.underlying3 Try.underlying58 (zeroStr w) p hw true
  rw [hl, mlook_cmk]
  unfold cmark strV
  cases cfind S p <;> rfl
theorem CuAt.lookH {w : World} {base c : Nat} {S : CuS} {mb hb : Nat} {bl : Int → Nat} (h : CuAt w base c S mb hb bl) (p : Int) (hw : (Lit.int .i64 p).wf = true) {e : CEnt} (he : cfind S p = some e) :
    (Instr.lookup 59 (.map (some hb)) (.int .i64 p) false).run Try.prog w = .ok (.map (some (bl p))) w := by
  have hl := h.heard.look (P := Try.prog) Try.underlying3 Try.underlying59 (zeroMapB w) p hw false
  rw [hl, mlook_cbl, he]
  rfl
theorem CuAt.lookS {w : World} {base c : Nat} {S : CuS} {mb hb : Nat} {bl : Int → Nat} (h : CuAt w base c S mb hb bl) (p : Int) {e : CEnt} (he : cfind S p = some e) (node : Int) (hw : (Lit.int .i64 node).wf = true) :
    (Instr.lookup 72 (.map (some (bl p))) (.int .i64 node) false).run Try.prog w = .ok (.bool (decide (node ∈ e.2.2))) w := by
  obtain ⟨hm, hp⟩ := cfind_some he
  have hl := (h.sets e hm).look (P := Try.prog) Try.underlying3 Try.underlying72 (zeroBoolC w) node hw false
  rw [hp] at hl
  rw [hl]
  simp only [Bool.false_eq_true, if_false, dec_mem_mlook]

set_option maxHeartbeats 1000000 in
theorem cunew_any (w : World) :
    Calls Try.prog 11 #[] w fun e w' => e = .returned (.pointer (some ⟨w.heap.size + 2, 0, none⟩)) ∧ Cu w' w.heap.size (w.heap.size + 2) [] ∧ Pure w w' := by
  have hmm := @run_makeMap Try.prog
  go_enter Try.func11, Try.ntmps11
  go_wp2
  go_ret
  refine ⟨rfl, ⟨w.heap.size, w.heap.size + 1, fun _ => 0, ?_, ?_, ?_, by simp, by simp, by omega, by simp, by simp, by simp⟩, ?_⟩
  · have := block_alloc_new ((w.alloc (.map #[] 0)).alloc (.map #[] 0)) (.cells #[.map (some w.heap.size), .map (some (w.heap.size + 1))] 61)
    simpa using this
  · exact ((IMap.made strV w).pure ((Below.refl _ _).alloc (Nat.le_refl _) _)).pure ((Below.refl _ _).alloc (Nat.le_refl _) _)
  · have := (IMap.made mapV (w.alloc (.map #[] 0))).pure ((Below.refl _ _).alloc (Nat.le_refl _) (.cells #[.map (some w.heap.size), .map (some (w.heap.size + 1))] 61))
    simpa using this
  · exact (((Below.refl _ _).alloc (Nat.le_refl _) _).alloc (by simp) _).alloc (by simp; omega) _

set_option maxHeartbeats 1000000 in
theorem cumark_any (base c : Nat) (S : CuS) (p : Int) (w : World) (h : Cu w base c S) (hw : (Lit.int .i64 p).wf = true) :
    Calls Try.prog 17 #[.pointer (some ⟨c, 0, none⟩), .int .i64 p] w fun e w' => e = .returned (.string (bs (cmark S p))) ∧ w = w' := by
  obtain ⟨mb, hb, bl, h⟩ := h
  have k0 : w.cell? ⟨c, 0, none⟩ = some (.map (some mb)) := cell_of_block h.blk 0
  have hl := h.lookM p hw
  clear h
  generalize bs (cmark S p) = R at *
  go_enter Try.func17, Try.ntmps17
  go_wp2
  go_ret
  exact ⟨rfl, rfl⟩

/-! ### What a write makes of it -/
theorem cset_cset (S : CuS) (p : Int) (m m' : List UInt8) (h h' : List Int) : cset (cset S p m h) p m' h' = cset S p m' h' := by
  induction S with
  | nil => simp [cset]
  | cons e S ih =>
    by_cases h1 : (e.1 == p) = true
    · simp [cset, h1]
    · simp only [cset, h1, Bool.false_eq_true, if_false]; rw [ih]
theorem cset_same_mark {S : CuS} {p : Int} {e : CEnt} (he : cfind S p = some e) (h : List Int) : (cset S p e.2.1 h).map cmk = S.map cmk := by
  induction S with
  | nil => simp [cfind] at he
  | cons f S ih =>
    by_cases h1 : f.1 = p
    · have : f = e := by simpa [cfind, h1] using he
      subst this
      simp [cset, h1, cmk]
    · have h2 : (f.1 == p) = false := by simpa using h1
      have he' : cfind S p = some e := by simpa [cfind, h2] using he
      simp only [cset, h2, Bool.false_eq_true, if_false, List.map_cons]
      rw [ih he']
theorem cset_cbl {S : CuS} {p : Int} {e : CEnt} (he : cfind S p = some e) (bl : Int → Nat) (m : List UInt8) (h : List Int) : (cset S p m h).map (cbl bl) = S.map (cbl bl) := by
  have hk := cset_keys m h ⟨e, (cfind_some he).1, (cfind_some he).2⟩
  have h1 : ∀ T : CuS, T.map (cbl bl) = (T.map (·.1)).map (fun q => (q, bl q)) := fun T => by rw [List.map_map]; rfl
  rw [h1, h1, hk]

theorem mput_new {α : Type} (m : List (Int × α)) (p : Int) (v : α) (hn : ∀ x ∈ m, x.1 ≠ p) : mput m p v = m ++ [(p, v)] := by
  induction m with
  | nil => rfl
  | cons x m ih =>
    have h1 : (x.1 == p) = false := by simpa using hn x (by simp)
    simp only [mput, h1, Bool.false_eq_true, if_false, List.cons_append]
    rw [ih (fun y hy => hn y (by simp [hy]))]
section
variable {w w' w1 w3 : World} {base c : Nat} {S : CuS} {mb hb : Nat} {bl : Int → Nat}
theorem CuAt.isMap (h : CuAt w base c S mb hb bl) {e : CEnt} (he : e ∈ S) : ∃ es clock, w.heap[bl e.1]? = some (.map es clock) := (h.sets e he).isMap
theorem CuAt.setH (h : CuAt w base c S mb hb bl) {p : Int} {e : CEnt} (he : cfind S p = some e) (hg : w.grownBy w' (some (bl p))) {l : List Int} (hm : IMap Value.bool w' (bl p) (tr l)) : CuAt w' base c (cset S p e.2.1 l) mb hb bl ∧ KC base c w w' := by
  obtain ⟨hmem, hp⟩ := cfind_some he
  have hmp : ∃ es clock, w.heap[bl p]? = some (.map es clock) := hp ▸ h.isMap hmem
  have hne : ∀ {k : Nat}, k ≠ bl p → k < w.heap.size → w'.heap[k]? = w.heap[k]? := fun hk hs => hg.block _ hs (fun e => hk (by injection e))
  have hc : c ≠ bl p := fun e => by obtain ⟨es, cl, hx⟩ := hmp; rw [← e, h.blk] at hx; cases hx
  have hbp := h.nem e hmem
  rw [hp] at hbp
  refine ⟨⟨(hne hc (lt_of_block h.blk)).trans h.blk, ?_, ?_, ?_, ?_, h.ne, ?_, ?_, h.ge.1, h.ge.2.1, h.ge.2.2.1, ?_⟩, KC.grown hg (hp ▸ h.ge.2.2.2 e hmem) hmp⟩
  · rw [cset_same_mark he]; exact h.marks.same (hne (Ne.symm hbp.1) h.marks.lt)
  · rw [cset_cbl he]; exact h.heard.same (hne (Ne.symm hbp.2) h.heard.lt)
  · intro f hf
    rcases cset_mem h.nd f hf with rfl | ⟨hf, hfp⟩
    · exact hm
    · refine (h.sets f hf).same (hne (fun e' => hfp ?_) (h.sets f hf).lt)
      rw [← hp] at e' ⊢
      exact h.inj f hf e hmem e'
  · rw [cset_keys _ _ ⟨e, hmem, hp⟩]; exact h.nd
  · intro f hf
    rcases cset_mem h.nd f hf with rfl | ⟨hf, _⟩
    · exact hbp
    · exact h.nem f hf
  · intro f hf g hg' e'
    rcases cset_mem h.nd f hf with rfl | ⟨hf, _⟩ <;> rcases cset_mem h.nd g hg' with rfl | ⟨hg', _⟩
    · rfl
    · have := h.inj e hmem g hg' (by rw [hp]; exact e'); rw [hp] at this; exact this
    · have := h.inj f hf e hmem (by rw [hp]; exact e'); rw [hp] at this; exact this
    · exact h.inj f hf g hg' e'
  · intro f hf
    rcases cset_mem h.nd f hf with rfl | ⟨hf, _⟩
    · exact hp ▸ h.ge.2.2.2 e hmem
    · exact h.ge.2.2.2 f hf
theorem CuAt.setM (h : CuAt w base c S mb hb bl) {p : Int} {e : CEnt} (he : cfind S p = some e) (hg : w.grownBy w' (some mb)) {m : List UInt8} (hm : IMap strV w' mb (mput (S.map cmk) p m)) : CuAt w' base c (cset S p m e.2.2) mb hb bl ∧ KC base c w w' := by
  obtain ⟨hmem, hp⟩ := cfind_some he
  have hne : ∀ {k : Nat}, k ≠ mb → k < w.heap.size → w'.heap[k]? = w.heap[k]? := fun hk hs => hg.block _ hs (fun e => hk (by injection e))
  have hc : c ≠ mb := fun e => by obtain ⟨es, cl, hx⟩ := h.marks.isMap; rw [← e, h.blk] at hx; cases hx
  refine ⟨⟨(hne hc (lt_of_block h.blk)).trans h.blk, ?_, ?_, ?_, ?_, h.ne, ?_, ?_, h.ge.1, h.ge.2.1, h.ge.2.2.1, ?_⟩, KC.grown hg h.ge.2.1 h.marks.isMap⟩
  · rw [mput_cmk S p m e.2.2] at hm; exact hm
  · rw [cset_cbl he]; exact h.heard.same (hne (Ne.symm h.ne) h.heard.lt)
  · intro f hf
    rcases cset_mem h.nd f hf with rfl | ⟨hf, hfp⟩
    · have := (h.sets e hmem).same (hne (h.nem e hmem).1 (h.sets e hmem).lt)
      rw [hp] at this; exact this
    · exact (h.sets f hf).same (hne (h.nem f hf).1 (h.sets f hf).lt)
  · rw [cset_keys _ _ ⟨e, hmem, hp⟩]; exact h.nd
  · intro f hf
    rcases cset_mem h.nd f hf with rfl | ⟨hf, _⟩
    · have := h.nem e hmem; rw [hp] at this; exact this
    · exact h.nem f hf
  · intro f hf g hg' e'
    rcases cset_mem h.nd f hf with rfl | ⟨hf, _⟩ <;> rcases cset_mem h.nd g hg' with rfl | ⟨hg', _⟩
    · rfl
    · have := h.inj e hmem g hg' (by rw [hp]; exact e'); rw [hp] at this; exact this
    · have := h.inj f hf e hmem (by rw [hp]; exact e'); rw [hp] at this; exact this
    · exact h.inj f hf g hg' e'
  · intro f hf
    rcases cset_mem h.nd f hf with rfl | ⟨hf, _⟩
    · exact hp ▸ h.ge.2.2.2 e hmem
    · exact h.ge.2.2.2 f hf
theorem CuAt.new (h : CuAt w base c S mb hb bl) {p : Int} (hn : ∀ e ∈ S, e.1 ≠ p) (hg : w.grownBy w1 (some mb)) {m : List UInt8} (hm : IMap strV w1 mb (mput (S.map cmk) p m))
    (hg3 : (w1.alloc (.map #[] 0)).grownBy w3 (some hb)) (hh : IMap mapV w3 hb (mput (S.map (cbl bl)) p w1.heap.size)) :
    CuAt w3 base c (cset S p m []) mb hb (fun q => if q = p then w1.heap.size else bl q) ∧ KC base c w w3 := by
  have hc1 : c ≠ mb := fun e => by obtain ⟨es, cl, hx⟩ := h.marks.isMap; rw [← e, h.blk] at hx; cases hx
  have hc2 : c ≠ hb := fun e => by obtain ⟨es, cl, hx⟩ := h.heard.isMap; rw [← e, h.blk] at hx; cases hx
  have n1 : ∀ {k : Nat}, k ≠ mb → k < w.heap.size → w1.heap[k]? = w.heap[k]? := fun hk hs => hg.block _ hs (fun e => hk (by injection e))
  have n3 : ∀ {k : Nat}, k ≠ hb → k < w1.heap.size → w3.heap[k]? = w1.heap[k]? := fun hk hs => (hg3.block _ (by simp; omega) (fun e => hk (by injection e))).trans (Below.heap_alloc _ _ _ hs)
  have hsz := hg.size
  have hme : ∀ e ∈ cset S p m [], e = (p, m, []) ∨ (e ∈ S ∧ e.1 ≠ p) := cset_mem h.nd
  have hlt : ∀ e ∈ S, bl e.1 < w1.heap.size := fun e he => Nat.lt_of_lt_of_le (h.sets e he).lt hsz
  have hmlt := h.marks.lt
  have hhlt := h.heard.lt
  have hkc1 : KC base c w w1 := KC.grown hg h.ge.2.1 h.marks.isMap
  have hkc3 : KC base c (w1.alloc (.map #[] 0)) w3 := KC.grown hg3 h.ge.2.2.1 (by
    obtain ⟨es, cl, hx⟩ := h.heard.isMap
    exact ⟨es, cl, (Below.heap_alloc _ _ _ (by omega)).trans ((n1 (Ne.symm h.ne) hhlt).trans hx)⟩)
  refine ⟨⟨(n3 hc2 (by have := lt_of_block h.blk; omega)).trans ((n1 hc1 (lt_of_block h.blk)).trans h.blk), ?_, ?_, ?_, ?_, h.ne, ?_, ?_, h.ge.1, h.ge.2.1, h.ge.2.2.1, ?_⟩, (hkc1.trans (KC.pure ((Below.refl _ _).alloc (Nat.le_refl _) _))).trans hkc3⟩
  · rw [mput_cmk S p m []] at hm
    exact hm.same (n3 h.ne (by omega))
  · rw [cset_new m [] hn]
    rw [mput_new (S.map (cbl bl)) p _ (fun x hx => by obtain ⟨e, he, rfl⟩ := List.mem_map.1 hx; exact hn e he)] at hh
    have e1 : (S ++ [(p, m, [])]).map (cbl fun q => if q = p then w1.heap.size else bl q) = S.map (cbl bl) ++ [(p, w1.heap.size)] := by
      rw [List.map_append]
      congr 1
      · refine List.map_congr_left (fun e he => ?_)
        simp [cbl, hn e he]
      · simp [cbl]
    rw [e1]; exact hh
  · intro f hf
    rcases hme f hf with rfl | ⟨hf, hfp⟩
    · dsimp only
      rw [if_pos rfl]
      have := IMap.made Value.bool w1
      refine this.same (hg3.block _ (by simp) (fun e => ?_))
      have : w1.heap.size = hb := by injection e
      omega
    · rw [if_neg hfp]
      exact ((h.sets f hf).same (n1 (h.nem f hf).1 (h.sets f hf).lt)).same (n3 (h.nem f hf).2 (hlt f hf))
  · rw [cset_new m [] hn, List.map_append]
    refine List.nodup_append.2 ⟨h.nd, by simp, fun a ha b hb' e => ?_⟩
    simp at hb'
    obtain ⟨f, hf, rfl⟩ := List.mem_map.1 ha
    exact hn f hf (e.trans hb')
  · intro f hf
    rcases hme f hf with rfl | ⟨hf, hfp⟩
    · dsimp only; rw [if_pos rfl]; omega
    · rw [if_neg hfp]; exact h.nem f hf
  · intro f hf g hg' e'
    rcases hme f hf with rfl | ⟨hf, hfp⟩ <;> rcases hme g hg' with rfl | ⟨hg', hgp⟩
    · rfl
    · dsimp only at e'; rw [if_pos rfl, if_neg hgp] at e'; have := hlt g hg'; omega
    · dsimp only at e'; rw [if_neg hfp, if_pos rfl] at e'; have := hlt f hf; omega
    · rw [if_neg hfp, if_neg hgp] at e'; exact h.inj f hf g hg' e'
  · intro f hf
    rcases hme f hf with rfl | ⟨hf, hfp⟩
    · dsimp only; rw [if_pos rfl]; have := h.ge.2.1; omega
    · rw [if_neg hfp]; exact h.ge.2.2.2 f hf
end
end Go.Proofs.Ytofengnbedebpaa
