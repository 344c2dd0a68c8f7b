/- Readers, in plain words: what is left of a row of bytes; none: it is torn. What readers make of rows of names, contexts and bags, in plain words; what may be. dot.Rises, of any row. ctx.Check, of any context. -/
import Derived.Test.YtbcbmnifbflmaaaGreatMNum
import Derived.Test.YtbcbmnifbflmaaaGreatMSa
import Derived.Test.YtbcbmnifbflmaaaGreatQK
import Derived.Test.YtbcbmnifbflmaaaGreatMQa
import Derived.Test.YtbcbmnifbflmaaaGreatQJ
namespace Go.Proofs.YtbcbmnifbflmaaaGreat
open Go.RowKit Go.Maps

abbrev RS := Option (List UInt8)
/-- The digits of a number off the front: how many more may come; the number so far. -/
def rdg : Nat → Nat → List UInt8 → Option (Nat × List UInt8)
  | 0, _, _ => none
  | _ + 1, _, [] => none
  | f + 1, n, c :: r => if 18446744073709551616 ≤ n * 128 then none else if c.toNat < 128 then some (n * 128 + c.toNat, r) else rdg f (n * 128 + (c.toNat - 128)) r
def rnumL (l : List UInt8) : Option (Nat × List UInt8) := if l.head? = some 128 then none else rdg 10 0 l
def rdNum : RS → Nat × RS
  | none => (0, none)
  | some l => match rnumL l with
    | none => (0, none)
    | some (n, r) => (n, some r)
def rdInt (most : Int) (s : RS) : Int × RS :=
  match rdNum s with
  | (_, none) => (0, none)
  | (n, some r) => if most < 0 ∨ most < n then (0, none) else (n, some r)
def rdText (most : Int) (s : RS) : List UInt8 × RS :=
  match rdInt most s with
  | (_, none) => ([], none)
  | (n, some r) => if r.length < n.toNat then ([], none) else (r.take n.toNat, some (r.drop n.toNat))
theorem rdNum_none : rdNum none = (0, none) := rfl
theorem rdInt_none (most : Int) : rdInt most none = (0, none) := rfl
theorem rdText_none (most : Int) : rdText most none = ([], none) := rfl
theorem rdInt_neg (most : Int) (h : most < 0) (s : RS) : rdInt most s = (0, none) := by
  unfold rdInt
  split
  · rfl
  · rw [if_pos (.inl h)]
theorem rdInt_bd (most : Int) (s : RS) : 0 ≤ (rdInt most s).1 ∧ (0 ≤ most → (rdInt most s).1 ≤ most) := by
  unfold rdInt
  split
  · exact ⟨Int.le_refl _, fun h => h⟩
  · split
    · exact ⟨Int.le_refl _, fun h => h⟩
    · rename_i n r _ h
      exact ⟨Int.natCast_nonneg n, fun _ => by show (n : Int) ≤ most; omega⟩
theorem rdNum_lt (s : RS) : (rdNum s).1 < 18446744073709551616 := by
  have key : ∀ (f n : Nat) (l : List UInt8) (m : Nat) (r : List UInt8), rdg f n l = some (m, r) → m < 18446744073709551616 := by
    intro f
    induction f with
    | zero => intro n l m r h; simp [rdg] at h
    | succ f ih =>
      intro n l m r h
      cases l with
      | nil => simp [rdg] at h
      | cons c l =>
        rw [rdg] at h
        split at h
        · cases h
        · split at h
          · simp only [Option.some.injEq, Prod.mk.injEq] at h
            have := c.toNat_lt
            omega
          · exact ih _ _ _ _ h
  unfold rdNum
  split
  · decide
  · rename_i l
    cases e : rnumL l with
    | none => simp
    | some p =>
      obtain ⟨n, r⟩ := p
      show n < _
      unfold rnumL at e
      split at e
      · cases e
      · exact key _ _ _ _ _ e

/-! ### what was written is read -/
theorem lt_nd (n : Nat) (h2 : n < 18446744073709551616) : n < 128 ^ nd n := by
  induction n using Nat.strongRecOn with
  | _ n ih =>
    by_cases h : n < 128
    · rw [nd_small h]; omega
    · have := ih (n / 128) (by omega) (by omega)
      rw [nd_big h h2, Nat.pow_succ]
      omega
theorem nd_top (n : Nat) (h : ¬ n < 128) (h2 : n < 18446744073709551616) : 128 ^ (nd n - 1) ≤ n := by
  induction n using Nat.strongRecOn with
  | _ n ih =>
    rw [nd_big h h2, Nat.add_sub_cancel]
    by_cases h' : n / 128 < 128
    · rw [nd_small h']; omega
    · have := ih (n / 128) (by omega) h' (by omega)
      have hp := nd_pos (n / 128)
      have e : nd (n / 128) = nd (n / 128) - 1 + 1 := by omega
      rw [e, Nat.pow_succ]
      omega
theorem rdg_hi (n : Nat) (h2 : n < 18446744073709551616) (r : List UInt8) (f : Nat) : ∀ j, rdg (j + 1 + f) (n / 128 ^ (j + 1)) (hi n j ++ (UInt8.ofNat (n % 128) :: r)) = some (n, r)
  | 0 => by
    have e : (UInt8.ofNat (n % 128)).toNat = n % 128 := by rw [UInt8.toNat_ofNat']; omega
    have e1 : 0 + 1 + f = f + 1 := by omega
    rw [e1, hi, List.nil_append, rdg, e, if_neg (by omega), if_pos (by omega)]
    simp only [Nat.zero_add, Nat.pow_one, Option.some.injEq, Prod.mk.injEq, and_true]
    omega
  | j + 1 => by
    have ih := rdg_hi n h2 r f j
    have hd := dg_lt n (j + 1)
    have e : (UInt8.ofNat (dg n (j + 1))).toNat = dg n (j + 1) := by rw [UInt8.toNat_ofNat']; omega
    have e1 : j + 1 + 1 + f = (j + 1 + f) + 1 := by omega
    have e2 : n / 128 ^ (j + 1 + 1) = n / 128 ^ (j + 1) / 128 := by rw [Nat.pow_succ, Nat.div_div_eq_div_mul]
    have e3 : n / 128 ^ (j + 1) ≤ n := Nat.div_le_self _ _
    have e4 : n / 128 ^ (j + 1) / 128 * 128 + (dg n (j + 1) - 128) = n / 128 ^ (j + 1) := by unfold dg; omega
    rw [e1, hi, List.cons_append, rdg, e, e2, if_neg (by omega), if_neg (by omega), e4]
    exact ih
theorem num_hi (n : Nat) (h2 : n < 18446744073709551616) : num n = hi n (nd n - 1) ++ [UInt8.ofNat (n % 128)] := by unfold num; rw [numAcc_hi n h2]
theorem num_head (n : Nat) (h2 : n < 18446744073709551616) (r : List UInt8) : (num n ++ r).head? ≠ some 128 := by
  rw [num_hi n h2]
  by_cases h : n < 128
  · rw [nd_small h, show 1 - 1 = 0 from rfl]
    have e : (UInt8.ofNat (n % 128)).toNat = n % 128 := by rw [UInt8.toNat_ofNat']; omega
    intro h3
    simp only [hi, List.nil_append, List.cons_append, List.head?_cons, Option.some.injEq] at h3
    rw [h3] at e
    have : (128 : UInt8).toNat = 128 := rfl
    omega
  · have h3 := nd_top n h h2
    have h4 := lt_nd n h2
    have hp : 2 ≤ nd n := by rw [nd_big h h2]; have := nd_pos (n / 128); omega
    obtain ⟨k, hk⟩ : ∃ k, nd n - 1 = k + 1 := ⟨nd n - 2, by omega⟩
    rw [hk] at h3 ⊢
    have hk2 : nd n = k + 1 + 1 := by omega
    rw [hk2] at h4
    rw [hi, List.cons_append, List.cons_append, List.head?_cons]
    intro h5
    have h6 := Option.some.inj h5
    have e : (UInt8.ofNat (dg n (k + 1))).toNat = dg n (k + 1) := by rw [UInt8.toNat_ofNat']; have := dg_lt n (k + 1); omega
    rw [h6] at e
    have e8 : (128 : UInt8).toNat = 128 := rfl
    have h7 : 1 ≤ n / 128 ^ (k + 1) := (Nat.le_div_iff_mul_le (Nat.pow_pos (by decide))).2 (by omega)
    have h8 : n / 128 ^ (k + 1) < 128 := by
      rw [Nat.div_lt_iff_lt_mul (Nat.pow_pos (by decide)), Nat.mul_comm, ← Nat.pow_succ]; exact h4
    unfold dg at e
    omega
theorem rnumL_num (n : Nat) (h2 : n < 18446744073709551616) (r : List UInt8) : rnumL (num n ++ r) = some (n, r) := by
  unfold rnumL
  rw [if_neg (num_head n h2 r), num_hi n h2, List.append_assoc]
  have hp := nd_pos n
  have hl := nd_le n h2
  have h := rdg_hi n h2 r (10 - nd n) (nd n - 1)
  have e1 : nd n - 1 + 1 = nd n := by omega
  have e2 : nd n + (10 - nd n) = 10 := by omega
  rw [e1, e2, Nat.div_eq_of_lt (lt_nd n h2)] at h
  exact h
theorem rdInt_num (most : Int) (n : Nat) (h : (n : Int) ≤ most) (h2 : n < 18446744073709551616) (r : List UInt8) : rdInt most (some (num n ++ r)) = ((n : Int), some r) := by
  have e : rdNum (some (num n ++ r)) = (n, some r) := by
    unfold rdNum
    dsimp only
    rw [rnumL_num n h2]
  unfold rdInt
  rw [e]
  dsimp only
  rw [if_neg (by omega)]
theorem rdText_text (most : Int) (s : List UInt8) (h : (s.length : Int) ≤ most) (h2 : s.length < 18446744073709551616) (r : List UInt8) : rdText most (some (textB s ++ r)) = (s, some r) := by
  unfold rdText textB
  rw [List.append_assoc, rdInt_num most s.length h h2]
  dsimp only
  rw [Int.toNat_natCast, if_neg (by rw [List.length_append]; omega), List.take_left' rfl, List.drop_left' rfl]

/-! ### the digits that were read, written: the beginning that is a number's bytes -/
def vl (p : List UInt8) : Nat := p.foldl (fun n c => n * 128 + (c.toNat - 128)) 0
theorem vl_snoc (p : List UInt8) (c : UInt8) : vl (p ++ [c]) = vl p * 128 + (c.toNat - 128) := by unfold vl; rw [List.foldl_append]; rfl
/-- Digits that go on, the first one not 0. -/
structure Dgs (p : List UInt8) : Prop where
  on : ∀ c ∈ p, 128 ≤ c.toNat
  first : p.head? ≠ some 128
theorem Dgs.pos : ∀ (n : Nat) {p : List UInt8}, p.length = n + 1 → Dgs p → 0 < vl p := by
  intro n
  induction n with
  | zero =>
    intro p hl h
    match p, hl with
    | [c], _ =>
      have h1 := h.on c (by simp)
      have h2 : c ≠ 128 := fun e => h.first (by rw [e]; rfl)
      have h3 : c.toNat ≠ 128 := fun e => h2 (UInt8.toNat_inj.1 e)
      show 0 < 0 * 128 + (c.toNat - 128)
      omega
  | succ n ih =>
    intro p hl h
    have hne : p ≠ [] := by intro e; rw [e] at hl; simp at hl
    have e := List.dropLast_concat_getLast hne
    rw [← e, vl_snoc]
    have h1 := ih (p := p.dropLast) (by simp; omega) ⟨fun c hc => h.on c ((List.dropLast_sublist p).subset hc), by
      intro h1
      apply h.first
      rw [← e, List.head?_append, h1]; rfl⟩
    omega
theorem Dgs.num : ∀ (n : Nat) {p : List UInt8}, p.length = n → Dgs p → ∀ (c : Nat), c < 128 → ∀ acc, numAcc (vl p * 128 + c) acc = p ++ acc := by
  intro n
  induction n with
  | zero =>
    intro p hl h c hc acc
    have := List.eq_nil_of_length_eq_zero hl
    subst this
    rw [numAcc_small (by show 0 * 128 + c < 128; omega)]; rfl
  | succ n ih =>
    intro p hl h c hc acc
    have hpos := Dgs.pos n hl h
    have hne : p ≠ [] := by intro e; rw [e] at hl; simp at hl
    have e := List.dropLast_concat_getLast hne
    have hb := h.on _ (List.getLast_mem hne)
    have hb2 := (p.getLast hne).toNat_lt
    rw [numAcc_big (by omega)]
    have e1 : (vl p * 128 + c) / 128 = vl p := by omega
    have e0 : vl p = vl p.dropLast * 128 + ((p.getLast hne).toNat - 128) := by rw [← vl_snoc, e]
    have e2 : vl p % 128 = (p.getLast hne).toNat - 128 := by omega
    have e3 : UInt8.ofNat (128 + vl p % 128) = p.getLast hne := by
      apply UInt8.toNat_inj.1
      rw [UInt8.toNat_ofNat']; omega
    rw [e1, e3, e0, ih (p := p.dropLast) (by simp; omega) ⟨fun c hc => h.on c ((List.dropLast_sublist p).subset hc), fun h1 => h.first (by rw [← e, List.head?_append, h1]; rfl)⟩ _ (by omega)]
    conv => rhs; rw [← e]
    rw [List.append_assoc]; rfl
theorem num_digits {p : List UInt8} (hon : ∀ c ∈ p, 128 ≤ c.toNat) {c : UInt8} (hc : c.toNat < 128) (h2 : vl p * 128 + c.toNat < 18446744073709551616) : (Go.Proofs.YtbcbmnifbflmaaaGreat.num (vl p * 128 + c.toNat) = p ++ [c]) ↔ (p ++ [c]).head? ≠ some 128 := by
  constructor
  · intro h h1
    have := num_head _ h2 []
    rw [List.append_nil, h] at this
    exact this h1
  · intro h
    unfold Go.Proofs.YtbcbmnifbflmaaaGreat.num
    have e : UInt8.ofNat ((vl p * 128 + c.toNat) % 128) = c := by
      apply UInt8.toNat_inj.1
      rw [UInt8.toNat_ofNat']; omega
    rw [e]
    exact Dgs.num p.length rfl ⟨hon, fun h1 => h (by rw [List.head?_append, h1]; rfl)⟩ _ hc _
/-! ### a step of the loop -/
/-- Behind i digits: n so far. -/
structure RdI (l : List UInt8) (i n : Nat) : Prop where
  le : i ≤ l.length
  le10 : i ≤ 10
  on : ∀ c ∈ l.take i, 128 ≤ c.toNat
  v : n = vl (l.take i)
  lt : n < 18446744073709551616
  r : rdg 10 0 l = rdg (10 - i) n (l.drop i)
theorem RdI.start (l : List UInt8) : RdI l 0 0 := ⟨Nat.zero_le _, by omega, by simp, rfl, by omega, by simp⟩
theorem take_succ_b (l : List UInt8) (k : Nat) (h : k < l.length) : l.take (k + 1) = l.take k ++ [l.getD k 0] := by
  rw [List.take_succ_eq_append_getElem h]; simp [List.getD, h]
theorem drop_b (l : List UInt8) (k : Nat) (h : k < l.length) : l.drop k = l.getD k 0 :: l.drop (k + 1) := by
  rw [List.drop_eq_getElem_cons h]; simp [List.getD, h]
theorem RdI.rdg {l : List UInt8} {i n : Nat} (h : RdI l i n) (hi : i < l.length) (h10 : i < 10) : Go.Proofs.YtbcbmnifbflmaaaGreat.rdg 10 0 l = if 18446744073709551616 ≤ n * 128 then none else if (l.getD i 0).toNat < 128 then some (n * 128 + (l.getD i 0).toNat, l.drop (i + 1)) else Go.Proofs.YtbcbmnifbflmaaaGreat.rdg (10 - (i + 1)) (n * 128 + ((l.getD i 0).toNat - 128)) (l.drop (i + 1)) := by
  rw [h.r, drop_b l i hi, show 10 - i = (10 - (i + 1)) + 1 by omega, Go.Proofs.YtbcbmnifbflmaaaGreat.rdg]
theorem RdI.end_ {l : List UInt8} {i n : Nat} (h : RdI l i n) (hi : ¬ (i < l.length ∧ i < 10)) : Go.Proofs.YtbcbmnifbflmaaaGreat.rdg 10 0 l = none := by
  rw [h.r]
  by_cases h1 : i < 10
  · have : l.drop i = [] := List.drop_eq_nil_of_le (by omega)
    rw [this, show 10 - i = (9 - i) + 1 by omega]; rfl
  · rw [show 10 - i = 0 by omega]; rfl
theorem RdI.over {l : List UInt8} {i n : Nat} (h : RdI l i n) (hi : i < l.length) (h10 : i < 10) (ho : 18446744073709551616 ≤ n * 128) : rdNum (some l) = (0, none) := by
  have : rnumL l = none := by unfold rnumL; rw [h.rdg hi h10, if_pos ho]; simp
  unfold rdNum; simp [this]
theorem RdI.stop {l : List UInt8} {i n : Nat} (h : RdI l i n) (hi : ¬ (i < l.length ∧ i < 10)) : rdNum (some l) = (0, none) := by
  have : rnumL l = none := by unfold rnumL; rw [h.end_ hi]; simp
  unfold rdNum; simp [this]
theorem head_take (l : List UInt8) (i : Nat) : (l.take (i + 1)).head? = l.head? := by cases l <;> rfl
theorem RdI.bad {l : List UInt8} (h : l.head? = some 128) : rdNum (some l) = (0, none) := by
  have : rnumL l = none := by unfold rnumL; rw [if_pos h]
  unfold rdNum; simp [this]
theorem RdI.hit {l : List UInt8} {i n : Nat} (h : RdI l i n) (hi : i < l.length) (h10 : i < 10) (ho : ¬ 18446744073709551616 ≤ n * 128) (hc : (l.getD i 0).toNat < 128) (hf : l.head? ≠ some 128) : rdNum (some l) = (n * 128 + (l.getD i 0).toNat, some (l.drop (i + 1))) := by
  have : rnumL l = some (n * 128 + (l.getD i 0).toNat, l.drop (i + 1)) := by unfold rnumL; rw [if_neg hf, h.rdg hi h10, if_neg ho, if_pos hc]
  unfold rdNum; simp [this]
theorem RdI.next {l : List UInt8} {i n : Nat} (h : RdI l i n) (hi : i < l.length) (h10 : i < 10) (ho : ¬ 18446744073709551616 ≤ n * 128) (hc : ¬ (l.getD i 0).toNat < 128) : RdI l (i + 1) (n * 128 + ((l.getD i 0).toNat - 128)) := by
  have hlt := (l.getD i 0).toNat_lt
  refine ⟨by omega, by omega, fun c hc' => ?_, ?_, by omega, ?_⟩
  · rw [take_succ_b l i hi, List.mem_append] at hc'
    rcases hc' with h1 | h1
    · exact h.on c h1
    · simp only [List.mem_singleton] at h1; subst h1; omega
  · rw [take_succ_b l i hi, vl_snoc, ← h.v]
  · rw [h.rdg hi h10, if_neg ho, if_neg hc]
/-- The document asks whether what was read is a number's bytes. -/
theorem RdI.asks {l : List UInt8} {i n : Nat} (h : RdI l i n) (hi : i < l.length) (ho : ¬ 18446744073709551616 ≤ n * 128) (hc : (l.getD i 0).toNat < 128) : Go.Proofs.YtbcbmnifbflmaaaGreat.num (n * 128 + (l.getD i 0).toNat) = l.take (i + 1) ↔ l.head? ≠ some 128 := by
  have h2 : vl (l.take i) * 128 + (l.getD i 0).toNat < 18446744073709551616 := by rw [← h.v]; omega
  have := num_digits h.on hc h2
  rw [← h.v, ← take_succ_b l i hi, head_take] at this
  exact this
end Go.Proofs.YtbcbmnifbflmaaaGreat

namespace Go.Proofs.YtbcbmnifbflmaaaGreat
open Go.RowKit Go.Maps Go.Shelf Go.Sort

/-- All rounds below n. -/
def allB (n : Nat) (p : Nat → Bool) : Bool := (List.range n).all p
theorem allB_zero (p : Nat → Bool) : allB 0 p = true := rfl
theorem allB_succ (n : Nat) (p : Nat → Bool) : allB (n + 1) p = (allB n p && p n) := by unfold allB; rw [List.range_succ, List.all_append]; simp
theorem allB_iff {n : Nat} {p : Nat → Bool} : allB n p = true ↔ ∀ i, i < n → p i = true := by unfold allB; simp [List.all_eq_true, List.mem_range]
theorem allB_false {n k : Nat} {p : Nat → Bool} (h : k < n) (hf : p k = false) : allB n p = false := by
  rw [Bool.eq_false_iff]
  intro e
  rw [allB_iff.1 e k h] at hf
  cases hf
theorem allB_next {k : Nat} {p : Nat → Bool} (h : allB k p = true) (e : p k = true) : allB (k + 1) p = true := by rw [allB_succ, h, e]; rfl
/-- A row of anything rises where each is above the one ahead of it. -/
theorem pw_of_adj {α : Type} (R : α → α → Prop) (ht : ∀ a b c, R a b → R b c → R a c) (z : α) : ∀ (l : List α), (∀ k, k < l.length → k = 0 ∨ R (l.getD (k - 1) z) (l.getD k z)) → l.Pairwise R := by
  intro l
  induction l with
  | nil => intro _; exact List.Pairwise.nil
  | cons a l ih =>
    intro h
    have h1 : l.Pairwise R := ih (fun k hk => by
      by_cases h0 : k = 0
      · exact .inl h0
      · right
        rcases h (k + 1) (by simpa using hk) with e | e
        · omega
        · obtain ⟨j, rfl⟩ : ∃ j, k = j + 1 := ⟨k - 1, by omega⟩
          simpa using e)
    refine List.pairwise_cons.2 ⟨?_, h1⟩
    cases l with
    | nil => intro b hb; simp at hb
    | cons b l =>
      have e : R a b := by
        rcases h 1 (by simp) with e | e
        · omega
        · simpa using e
      intro c hc
      rcases List.mem_cons.1 hc with rfl | hc
      · exact e
      · exact ht a b c e ((List.pairwise_cons.1 h1).1 c hc)
theorem adj_of_pw {α : Type} (R : α → α → Prop) (z : α) {l : List α} (h : l.Pairwise R) {k : Nat} (hk : k < l.length) : k = 0 ∨ R (l.getD (k - 1) z) (l.getD k z) := by
  by_cases h0 : k = 0
  · exact .inl h0
  · right
    have := List.pairwise_iff_getElem.1 h (k - 1) k (by omega) hk (by omega)
    simpa [List.getD, hk, show k - 1 < l.length by omega] using this
def riseAt (l : List Dot) (k : Nat) : Bool := decide (k = 0) || dlt (l.getD (k - 1) (0, 0)) (l.getD k (0, 0))
def riseb (l : List Dot) : Bool := allB l.length (riseAt l)
theorem riseb_iff {l : List Dot} : riseb l = true ↔ Rise l := by
  unfold riseb
  rw [allB_iff]
  constructor
  · intro h
    exact pw_of_adj DL (fun _ _ _ => DL.trans) (0, 0) l (fun k hk => by
      have := h k hk
      unfold riseAt at this
      rw [Bool.or_eq_true, decide_eq_true_eq, dlt_iff] at this
      exact this)
  · intro h k hk
    unfold riseAt
    rw [Bool.or_eq_true, decide_eq_true_eq, dlt_iff]
    exact adj_of_pw DL (0, 0) h hk
def cat0 (B : List Dot) (k : Nat) : Bool := dchk (B.getD k (0, 0)) && (decide (k = 0) || !decide ((B.getD (k - 1) (0, 0)).1 = (B.getD k (0, 0)).1))
def cat1 (B C : List Dot) (k : Nat) : Bool := dchk (C.getD k (0, 0)) && decide (cbase B (C.getD k (0, 0)).1 + 1 < (C.getD k (0, 0)).2)
def cchk (B C : List Dot) : Bool := riseb B && riseb C && allB B.length (cat0 B) && allB C.length (cat1 B C)
theorem get_mem {α : Type} {l : List α} {d z : α} (h : d ∈ l) : ∃ k, k < l.length ∧ l.getD k z = d := by
  obtain ⟨k, hk, rfl⟩ := List.getElem_of_mem h
  exact ⟨k, hk, by simp [List.getD, hk]⟩
theorem mem_of_get {α : Type} {l : List α} {z : α} {k : Nat} (h : k < l.length) : l.getD k z ∈ l := by simp [List.getD, h]
theorem cchk_iff {B C : List Dot} : cchk B C = true ↔ COk B C := by
  unfold cchk
  rw [Bool.and_eq_true, Bool.and_eq_true, Bool.and_eq_true, riseb_iff, riseb_iff, allB_iff, allB_iff]
  constructor
  · rintro ⟨⟨⟨h1, h2⟩, h3⟩, h4⟩
    have k3 : ∀ k, k < B.length → dok (B.getD k (0, 0)) ∧ (k = 0 ∨ (B.getD (k - 1) (0, 0)).1 ≠ (B.getD k (0, 0)).1) := fun k hk => by
      have := h3 k hk
      unfold cat0 at this
      rw [Bool.and_eq_true, dchk_iff, Bool.or_eq_true, decide_eq_true_eq, Bool.not_eq_true', decide_eq_false_iff_not] at this
      exact this
    have k4 : ∀ k, k < C.length → dok (C.getD k (0, 0)) ∧ cbase B (C.getD k (0, 0)).1 + 1 < (C.getD k (0, 0)).2 := fun k hk => by
      have := h4 k hk
      unfold cat1 at this
      rw [Bool.and_eq_true, dchk_iff, decide_eq_true_eq] at this
      exact this
    refine ⟨?_, fun d hd => ?_, h2, fun d hd => ?_, fun d hd => ?_⟩
    · refine pw_of_adj (fun a b : Dot => a.1 < b.1) (fun _ _ _ h k => Int.lt_trans h k) (0, 0) B (fun k hk => ?_)
      rcases (k3 k hk).2 with h | h
      · exact .inl h
      · rcases adj_of_pw DL (0, 0) h1 hk with e | e
        · exact .inl e
        · unfold DL at e
          right; omega
    · obtain ⟨k, hk, rfl⟩ := get_mem (z := ((0, 0) : Dot)) hd
      exact (k3 k hk).1
    · obtain ⟨k, hk, rfl⟩ := get_mem (z := ((0, 0) : Dot)) hd
      exact (k4 k hk).1
    · obtain ⟨k, hk, rfl⟩ := get_mem (z := ((0, 0) : Dot)) hd
      exact (k4 k hk).2
  · intro h
    refine ⟨⟨⟨br_rise h.br, h.cr⟩, fun k hk => ?_⟩, fun k hk => ?_⟩
    · unfold cat0
      rw [Bool.and_eq_true, dchk_iff, Bool.or_eq_true, decide_eq_true_eq, Bool.not_eq_true', decide_eq_false_iff_not]
      refine ⟨h.bok _ (mem_of_get hk), ?_⟩
      rcases adj_of_pw (fun a b : Dot => a.1 < b.1) (0, 0) h.br hk with e | e
      · exact .inl e
      · right; omega
    · unfold cat1
      rw [Bool.and_eq_true, dchk_iff, decide_eq_true_eq]
      exact ⟨h.cok _ (mem_of_get hk), h.far _ (mem_of_get hk)⟩
def bat (g : Bag) (k : Nat) : Bool := mmay (g.1.getD k m0) && chas g.2.1 g.2.2 (g.1.getD k m0).1 && (decide (k = 0) || dlt (g.1.getD (k - 1) m0).1 (g.1.getD k m0).1)
def bchk (g : Bag) : Bool := cchk g.2.1 g.2.2 && allB g.1.length (bat g)
/-- A bag that may be. -/
structure BV (g : Bag) : Prop where
  ok : COk g.2.1 g.2.2
  r : MR g.1
  seen : ∀ m ∈ g.1, chas g.2.1 g.2.2 m.1 = true
  may : ∀ m ∈ g.1, mmay m = true
theorem BOk.bv {U : List Dot} {g : Bag} (h : BOk U g) : BV g := ⟨h.ok, h.r, h.seen, h.may⟩
theorem bchk_iff {g : Bag} : bchk g = true ↔ BV g := by
  unfold bchk
  rw [Bool.and_eq_true, cchk_iff, allB_iff]
  constructor
  · rintro ⟨h1, h2⟩
    have k2 : ∀ k, k < g.1.length → (mmay (g.1.getD k m0) = true ∧ chas g.2.1 g.2.2 (g.1.getD k m0).1 = true) ∧ (k = 0 ∨ DL (g.1.getD (k - 1) m0).1 (g.1.getD k m0).1) := fun k hk => by
      have := h2 k hk
      unfold bat at this
      rw [Bool.and_eq_true, Bool.and_eq_true, Bool.or_eq_true, decide_eq_true_eq, dlt_iff] at this
      exact this
    refine ⟨h1, pw_of_adj (fun x y : Msg => DL x.1 y.1) (fun _ _ _ => DL.trans) m0 g.1 (fun k hk => (k2 k hk).2), fun m hm => ?_, fun m hm => ?_⟩
    · obtain ⟨k, hk, rfl⟩ := get_mem (z := m0) hm
      exact (k2 k hk).1.2
    · obtain ⟨k, hk, rfl⟩ := get_mem (z := m0) hm
      exact (k2 k hk).1.1
  · intro h
    refine ⟨h.ok, fun k hk => ?_⟩
    unfold bat
    rw [Bool.and_eq_true, Bool.and_eq_true, Bool.or_eq_true, decide_eq_true_eq, dlt_iff]
    exact ⟨⟨h.may _ (mem_of_get hk), h.seen _ (mem_of_get hk)⟩, adj_of_pw (fun x y : Msg => DL x.1 y.1) m0 h.r hk⟩

/-! ### rows that are read -/
def rdItems {α : Type} (f : RS → α × RS) : Nat → List α → RS → List α × RS
  | 0, acc, s => (acc, s)
  | k + 1, acc, s => match f s with
    | (_, none) => ([], none)
    | (x, some r) => rdItems f k (acc ++ [x]) (some r)
theorem rdItems_len {α : Type} (f : RS → α × RS) : ∀ (k : Nat) (acc : List α) (s : RS), (rdItems f k acc s).1.length ≤ acc.length + k
  | 0, acc, s => by simp [rdItems]
  | k + 1, acc, s => by
    rw [rdItems]
    split
    · simp
    · have := rdItems_len f k (acc ++ [‹α›]) (some ‹_›)
      simp at this; omega
theorem rdItems_torn {α : Type} (f : RS → α × RS) (k : Nat) (acc : List α) (s : RS) (x : α) (h : f s = (x, none)) : rdItems f (k + 1) acc s = ([], none) := by rw [rdItems, h]
theorem rdItems_fine {α : Type} (f : RS → α × RS) (k : Nat) (acc : List α) (s : RS) (x : α) (r : List UInt8) (h : f s = (x, some r)) : rdItems f (k + 1) acc s = rdItems f k (acc ++ [x]) (some r) := by rw [rdItems, h]
theorem rdItems_all {α : Type} (f : RS → α × RS) (enc : α → List UInt8) : ∀ (l acc : List α) (r : List UInt8), (∀ x ∈ l, ∀ r, f (some (enc x ++ r)) = (x, some r)) → rdItems f l.length acc (some (l.flatMap enc ++ r)) = (acc ++ l, some r)
  | [], acc, r, _ => by simp [rdItems]
  | x :: l, acc, r, h => by
    rw [List.length_cons, List.flatMap_cons, List.append_assoc, rdItems_fine f _ _ _ x _ (h x (by simp) _), rdItems_all f enc l (acc ++ [x]) r (fun y hy => h y (by simp [hy])), List.append_assoc]; rfl
abbrev M40 : Int := 1099511627776
def rdDot (s : RS) : Dot × RS :=
  match rdInt M40 (rdInt M40 s).2 with
  | (_, none) => ((0, 0), none)
  | (y, some r) => if dchk ((rdInt M40 s).1, y) then (((rdInt M40 s).1, y), some r) else ((0, 0), none)
def rdRow (most : Int) (s : RS) : List Dot × RS :=
  match rdItems rdDot (rdInt most s).1.toNat [] (rdInt most s).2 with
  | (_, none) => ([], none)
  | (l, some r) => if riseb l then (l, some r) else ([], none)
def rdCtx (s : RS) : (List Dot × List Dot) × RS :=
  match rdRow 1000 (rdRow 1000 s).2 with
  | (_, none) => (([], []), none)
  | (C, some r) => if cchk (rdRow 1000 s).1 C then (((rdRow 1000 s).1, C), some r) else (([], []), none)
def rdMsg (s : RS) : Msg × RS :=
  (((rdDot s).1, (rdText 1000 (rdDot s).2).1, (rdText 1000 (rdText 1000 (rdDot s).2).2).1, (rdInt 1048576 (rdText 1000 (rdText 1000 (rdDot s).2).2).2).1), (rdInt 1048576 (rdText 1000 (rdText 1000 (rdDot s).2).2).2).2)
def rdBag (s : RS) : Bag × RS :=
  match rdItems rdMsg (rdInt 1000 (rdCtx s).2).1.toNat [] (rdInt 1000 (rdCtx s).2).2 with
  | (_, none) => (([], [], []), none)
  | (l, some r) => if bchk (l, (rdCtx s).1) then ((l, (rdCtx s).1), some r) else (([], [], []), none)
theorem rdDot_bytes {d : Dot} (h : dok d) (r : List UInt8) : rdDot (some (dotB d ++ r)) = (d, some r) := by
  have hd := dchk_iff.2 h
  unfold dok at h
  unfold rdDot dotB
  rw [List.append_assoc, rdInt_num _ d.1.toNat (by show _ ≤ (1099511627776 : Int); omega) (by omega)]
  dsimp only
  rw [rdInt_num _ d.2.toNat (by show _ ≤ (1099511627776 : Int); omega) (by omega)]
  dsimp only
  rw [Int.toNat_of_nonneg (by omega), Int.toNat_of_nonneg (by omega), if_pos hd]
theorem rdRow_bytes {l : List Dot} (h : ∀ d ∈ l, dok d) (hr : Rise l) (hl : l.length ≤ 1000) (r : List UInt8) : rdRow 1000 (some (rowB l ++ r)) = (l, some r) := by
  unfold rdRow rowB
  rw [List.append_assoc, rdInt_num _ l.length (by omega) (by omega)]
  dsimp only
  rw [Int.toNat_natCast, rdItems_all rdDot dotB l [] r (fun d hd r => rdDot_bytes (h d hd) r)]
  dsimp only
  rw [List.nil_append, if_pos (riseb_iff.2 hr)]
theorem rdCtx_bytes {B C : List Dot} (h : COk B C) (h1 : B.length ≤ 1000) (h2 : C.length ≤ 1000) (r : List UInt8) : rdCtx (some (ctxB B C ++ r)) = ((B, C), some r) := by
  unfold rdCtx ctxB
  rw [List.append_assoc, rdRow_bytes h.bok (br_rise h.br) h1]
  dsimp only
  rw [rdRow_bytes h.cok h.cr h2]
  dsimp only
  rw [if_pos (cchk_iff.2 h)]
theorem rdMsg_bytes {m : Msg} (h : mmay m = true) (r : List UInt8) : rdMsg (some (msgB m ++ r)) = (m, some r) := by
  unfold mmay at h
  simp only [Bool.and_eq_true, decide_eq_true_eq] at h
  obtain ⟨⟨⟨⟨⟨h1, h2⟩, h3⟩, h4⟩, h5⟩, h6⟩ := h
  unfold rdMsg msgB
  rw [List.append_assoc, List.append_assoc, List.append_assoc, rdDot_bytes (dchk_iff.1 h1)]
  dsimp only
  rw [rdText_text _ m.2.1 (by omega) (by omega)]
  dsimp only
  rw [rdText_text _ m.2.2.1 (by omega) (by omega)]
  dsimp only
  rw [rdInt_num _ m.2.2.2.toNat (by omega) (by omega), Int.toNat_of_nonneg h5]
theorem rdBag_bytes {g : Bag} (h : BV g) (h0 : g.1.length ≤ 1000) (h1 : g.2.1.length ≤ 1000) (h2 : g.2.2.length ≤ 1000) (r : List UInt8) : rdBag (some (bagB g ++ r)) = (g, some r) := by
  unfold rdBag bagB
  rw [List.append_assoc, List.append_assoc, rdCtx_bytes h.ok h1 h2]
  dsimp only
  rw [rdInt_num _ g.1.length (by omega) (by omega)]
  dsimp only
  rw [Int.toNat_natCast, rdItems_all rdMsg msgB g.1 [] r (fun m hm r => rdMsg_bytes (h.may m hm) r)]
  dsimp only
  rw [List.nil_append, if_pos (bchk_iff.2 h)]
theorem rdRow_len (s : RS) : (rdRow 1000 s).1.length ≤ 1000 := by
  unfold rdRow
  have h := rdItems_len rdDot (rdInt 1000 s).1.toNat [] (rdInt 1000 s).2
  have hb := (rdInt_bd 1000 s).2 (by omega)
  split
  · simp
  · rename_i l r e
    rw [e] at h
    split
    · simp at h ⊢; omega
    · simp
/-- What is read may be. -/
theorem rdCtx_ok (s : RS) : COk (rdCtx s).1.1 (rdCtx s).1.2 := by
  unfold rdCtx
  split
  · exact COk.nil
  · split
    · rename_i h; exact cchk_iff.1 h
    · exact COk.nil
theorem rdCtx_len (s : RS) : (rdCtx s).1.1.length ≤ 1000 ∧ (rdCtx s).1.2.length ≤ 1000 := by
  unfold rdCtx
  have h1 := rdRow_len s
  have h2 := rdRow_len (rdRow 1000 s).2
  split
  · exact ⟨Nat.zero_le _, Nat.zero_le _⟩
  · rename_i C r e
    rw [e] at h2
    split
    · exact ⟨h1, h2⟩
    · exact ⟨Nat.zero_le _, Nat.zero_le _⟩
theorem BV.nil : BV ([], [], []) := ⟨COk.nil, List.Pairwise.nil, by simp, by simp⟩
theorem rdBag_ok (s : RS) : BV (rdBag s).1 := by
  unfold rdBag
  split
  · exact BV.nil
  · split
    · rename_i h; exact bchk_iff.1 h
    · exact BV.nil
end Go.Proofs.YtbcbmnifbflmaaaGreat

namespace Go.Proofs.YtbcbmnifbflmaaaGreat
open Go.RowKit Go.Maps Go.Shelf Go.Sort

set_option maxRecDepth 8000 in
set_option maxHeartbeats 2000000 in
theorem risesb_any (v : Value) (l : List Dot) (w : World) (hr : Dots w v l) (hl : l.length ≤ 100000) :
    Calls Tryz.prog 103 #[v] w fun e w' => e = .returned (.bool (riseb l)) ∧ Pure w w' := by
  have HB := hid (show ∀ k, k < l.length → riseAt l k = false → riseb l = false from fun k h e => allB_false h e)
  have HE := hid (show allB l.length (riseAt l) = true → riseb l = true from fun h => h)
  generalize riseb l = R at *
  obtain ⟨a, cap, rfl⟩ := hr.shape
  have Hr := hid hr
  have hless := hid (fun x y W => less_any x y W)
  clear hr
  unfold dv at *
  go_enter Tryz.func103, Tryz.ntmps103
  go_wp2_with fail
  go_loopw [7] (fun i wr => ∃ k : Nat, k ≤ l.length ∧ i = .int .i64 k ∧ allB k (riseAt l) = true ∧ Pure w wr) (fun i _ => l.length - (RowKit.intOf i).toNat)
  case atStart => exact ⟨0, Nat.zero_le _, rfl, rfl, Below.refl _ _⟩
  case round =>
    obtain ⟨k, hk, rfl, hal, hp⟩ := hrel
    have Hal := hid hal
    clear hal
    have Hp := hid hp
    by_cases hlt : k < l.length
    · have hlt' : (k : Int) < (l.length : Int) := by omega
      have Hrow := hid (show Dots wr (.slice a l.length cap) l from Row.pure Hr.out hp)
      obtain ⟨b, off, rfl, hb, x0, x1⟩ := Dots.get Hrow.out hlt
      have Hcell := hid (show ∀ o, Pure wr (wr.alloc o).drew from fun o => ((Below.refl _ _).alloc (Nat.le_refl _) o).drew)
      have hbk := fun (z : Dot) => hid (show (wr.alloc (.cells #[.int .i64 z.1, .int .i64 z.2] 28)).drew.cell? ⟨wr.heap.size, 0, none⟩ = some (.int .i64 z.1) ∧ (wr.alloc (.cells #[.int .i64 z.1, .int .i64 z.2] 28)).drew.cell? ⟨wr.heap.size, 1, none⟩ = some (.int .i64 z.2) from by
        have := block_alloc_new wr (.cells #[.int .i64 z.1, .int .i64 z.2] 28)
        exact ⟨cell_of_block this 0, cell_of_block this 1⟩)
      by_cases h0 : 0 < k
      · have h0' : (0 : Int) < (k : Int) := by omega
        obtain ⟨D, hD⟩ : ∃ D, D = dlt (l.getD (k - 1) (0, 0)) (l.getD k (0, 0)) := ⟨_, rfl⟩
        have Hno := hid (fun (e : D = false) => HB.out k hlt (by unfold riseAt; rw [decide_eq_false (by omega), ← hD, e]; rfl))
        have Hyes := hid (fun (e : D = true) => allB_next Hal.out (show riseAt l k = true from by unfold riseAt; rw [← hD, e, Bool.or_true]))
        have hsub : IntKind.i64.wrap ((k : Int) - 1) = ((k - 1 : Nat) : Int) := by rw [IntWalk.i64_in _ (by omega)]; omega
        have hsub2 : (k : Int) - 1 = ((k - 1 : Nat) : Int) := by omega
        have hlt2 : ((k - 1 : Nat) : Int) < (l.length : Int) := by omega
        obtain ⟨b', off', e', hb', y0, y1⟩ := Dots.get Hrow.out (show k - 1 < l.length by omega)
        cases e'
        have hn : (0 : Int) ≤ ((k - 1 : Nat) : Int) := by omega
        have Hbz := hbk (l.getD k (0, 0))
        have hless2 := hid (fun W => hless.out (l.getD (k - 1) (0, 0)) (l.getD k (0, 0)) W)
        rw [← hD] at hless2
        clear hD
        generalize l.getD k (0, 0) = z at *
        generalize l.getD (k - 1) (0, 0) = y at *
        obtain ⟨z1, z2⟩ := z
        obtain ⟨q1, q2⟩ := y
        dsimp only at x0 x1 y0 y1 Hbz hless2
        clear hbk
        have hS : Hid (∀ W, Pure (wr.alloc (.cells #[.int .i64 z1, .int .i64 z2] 28)).drew W → (W.cell? ⟨b, off + (k - 1) * 2, none⟩ = some (.int .i64 q1) ∧ W.cell? ⟨b, off + (k - 1) * 2 + 1, none⟩ = some (.int .i64 q2) ∧ W.cell? ⟨wr.heap.size, 0, none⟩ = some (.int .i64 z1) ∧ W.cell? ⟨wr.heap.size, 1, none⟩ = some (.int .i64 z2) ∧ Pure (wr.alloc (.cells #[.int .i64 z1, .int .i64 z2] 28)).drew W)) := fun W hW => by
          have hwb := Pure.then_ (Hcell.out _) hW
          obtain ⟨e0, e1⟩ := Hbz.out
          exact ⟨(hwb.cell hb').trans y0, (hwb.cell hb').trans y1, (hW.cell (p := ⟨wr.heap.size, 0, none⟩) (by simp)).trans e0, (hW.cell (p := ⟨wr.heap.size, 1, none⟩) (by simp)).trans e1, hW⟩
        have hst := hid (hS.out _ (Below.refl _ _))
        have hS2 : Hid (∀ W : World, (W.cell? ⟨b, off + (k - 1) * 2, none⟩ = some (.int .i64 q1) ∧ W.cell? ⟨b, off + (k - 1) * 2 + 1, none⟩ = some (.int .i64 q2) ∧ W.cell? ⟨wr.heap.size, 0, none⟩ = some (.int .i64 z1) ∧ W.cell? ⟨wr.heap.size, 1, none⟩ = some (.int .i64 z2) ∧ Pure (wr.alloc (.cells #[.int .i64 z1, .int .i64 z2] 28)).drew W) → Pure (wr.alloc (.cells #[.int .i64 z1, .int .i64 z2] 28)).drew W) := fun W h => h.2.2.2.2
        clear hp hb hb' y0 y1
        generalize hj : k - 1 = j at *
        have hwm : IntKind.i64.wrap (j : Int) = (j : Int) := IntWalk.i64_in _ (by omega)
        cases D with
        | false =>
          have hRf := Hno.out rfl
          have HR := hid hRf
          clear hRf Hno Hyes
          go_wp2_with fail
          go_region_held3 (fun W => W.cell? ⟨b, off + j * 2, none⟩ = some (.int .i64 q1) ∧ W.cell? ⟨b, off + j * 2 + 1, none⟩ = some (.int .i64 q2) ∧ W.cell? ⟨wr.heap.size, 0, none⟩ = some (.int .i64 z1) ∧ W.cell? ⟨wr.heap.size, 1, none⟩ = some (.int .i64 z2) ∧ Pure (wr.alloc (.cells #[.int .i64 z1, .int .i64 z2] 28)).drew W)
            (first | assumption | with_reducible exact hst.out | with_reducible exact hS.out _ (Pure.then_ (hS2.out _ (by assumption)) (by assumption)))
            ((go_at_call 47; (with_reducible refine (hless2.out _).mono ?_); rintro e w7 ⟨rfl, hp7⟩))
          have hx := hid (Hp.out.then_ (Pure.then_ (Hcell.out _) (hS2.out w7 (by assumption))))
          clear hp7 hst hS hS2
          go_wp2
          go_ret
          exact ⟨by rw [HR.out]; rfl, hx.out⟩
        | true =>
          have HN := hid (Hyes.out rfl)
          clear Hno Hyes
          go_wp2_with fail
          go_region_held3 (fun W => W.cell? ⟨b, off + j * 2, none⟩ = some (.int .i64 q1) ∧ W.cell? ⟨b, off + j * 2 + 1, none⟩ = some (.int .i64 q2) ∧ W.cell? ⟨wr.heap.size, 0, none⟩ = some (.int .i64 z1) ∧ W.cell? ⟨wr.heap.size, 1, none⟩ = some (.int .i64 z2) ∧ Pure (wr.alloc (.cells #[.int .i64 z1, .int .i64 z2] 28)).drew W)
            (first | assumption | with_reducible exact hst.out | with_reducible exact hS.out _ (Pure.then_ (hS2.out _ (by assumption)) (by assumption)))
            ((go_at_call 47; (with_reducible refine (hless2.out _).mono ?_); rintro e w7 ⟨rfl, hp7⟩))
          have hx := hid (Hp.out.then_ (Pure.then_ (Hcell.out _) (hS2.out w7 (by assumption))))
          clear hp7 hst hS hS2
          go_wp2
          go_roundw
          case rel => exact ⟨k + 1, by omega, by go_num, HN.out, hx.out⟩
          case measure => simp [RowKit.intOf]; omega
      · have hg : decide ((0 : Int) < (k : Int)) = false := by simp; omega
        generalize l.getD k (0, 0) = z at *
        obtain ⟨z1, z2⟩ := z
        dsimp only at x0 x1
        have HN := hid (allB_next Hal.out (show riseAt l k = true from by unfold riseAt; rw [decide_eq_true (by omega)]; rfl))
        have hfin : Hid (∀ o, Pure w (wr.alloc o)) := fun o => Hp.out.alloc Hp.out.size o
        clear hp hb hbk
        go_wp2_with fail
        go_quiet (fail)
        go_wp2
        go_roundw
        case rel => exact ⟨k + 1, by omega, by go_num, HN.out, (hfin.out _).then_ (pure_drewN _ _)⟩
        case measure => simp [RowKit.intOf]; omega
    · obtain rfl : k = l.length := by omega
      have hlt' : ¬ (l.length : Int) < (l.length : Int) := by omega
      clear hp
      go_wp2
      go_ret
      exact ⟨by rw [HE.out Hal.out]; rfl, Hp.out⟩
end Go.Proofs.YtbcbmnifbflmaaaGreat

namespace Go.Proofs.YtbcbmnifbflmaaaGreat
open Go.RowKit Go.Maps Go.Shelf Go.Sort

def errOf (b : Bool) : Int := if b then 0 else 1
set_option maxRecDepth 8000 in
set_option maxHeartbeats 4000000 in
theorem checkb_any (vb vc : Value) (B C : List Dot) (w : World) (h1 : Dots w vb B) (h2 : Dots w vc C) (hl1 : B.length ≤ 100000) (hl2 : C.length ≤ 100000) :
    Calls Tryz.prog 68 #[cv vb vc] w fun e w' => e = .returned (.int .i64 (errOf (cchk B C))) ∧ Pure w w' := by
  obtain ⟨a0, c0, rfl⟩ := h1.shape
  obtain ⟨a1, c1, rfl⟩ := h2.shape
  obtain ⟨wz, hwz⟩ : ∃ wz, wz = w.alloc (.cells #[.slice a0 B.length c0, .slice a1 C.length c1] 31) := ⟨_, rfl⟩
  have Hpz := hid (show Pure w wz from by rw [hwz]; exact (Below.refl _ _).alloc (Nat.le_refl _) _)
  have hbk : Hid (wz.heap[w.heap.size]? = some (.cells #[.slice a0 B.length c0, .slice a1 C.length c1] 31 (0, 0))) := by
    show wz.heap[w.heap.size]? = _
    rw [hwz]
    exact block_alloc_new _ _
  have hC : Hid (∀ W, Pure wz W → (W.cell? ⟨w.heap.size, 0, none⟩ = some (.slice a0 B.length c0) ∧ W.cell? ⟨w.heap.size, 1, none⟩ = some (.slice a1 C.length c1))) := fun W hW => by
    have e0 := (hW.block _ (lt_of_block hbk.out)).trans hbk.out
    exact ⟨cell_of_block e0 0, cell_of_block e0 1⟩
  have HB := hid (fun W (hW : Pure wz W) => (Row.pure h1 (Hpz.out.then_ hW) : Dots W (.slice a0 B.length c0) B))
  have HC := hid (fun W (hW : Pure wz W) => (Row.pure h2 (Hpz.out.then_ hW) : Dots W (.slice a1 C.length c1) C))
  have hr1 := hid (fun W (hW : Pure wz W) => risesb_any _ B W (HB.out W hW) (by omega))
  have hr2 := hid (fun W (hW : Pure wz W) => risesb_any _ C W (HC.out W hW) (by omega))
  have hck := hid (fun z W => chk_any z W)
  have hup := hid (fun (hR : Rise B) (h0 : ∀ d ∈ B, 0 ≤ d.2) W x (hW : Pure wz W) => upto_any _ (.slice a1 C.length c1) B x W (HB.out W hW) hR h0 (by omega))
  have Hbad := hid (show (riseb B = false ∨ riseb C = false ∨ allB B.length (cat0 B) = false ∨ allB C.length (cat1 B C) = false) → errOf (cchk B C) = 1 from fun h => by
    unfold cchk
    rcases h with h | h | h | h <;> rw [h] <;> simp [errOf])
  have Hgood := hid (show riseb B = true → riseb C = true → allB B.length (cat0 B) = true → allB C.length (cat1 B C) = true → errOf (cchk B C) = 0 from fun h1 h2 h3 h4 => by
    unfold cchk
    rw [h1, h2, h3, h4]; rfl)
  generalize errOf (cchk B C) = E at *
  obtain ⟨g0, g1⟩ := hC.out wz (Below.refl _ _)
  clear h1 h2
  unfold dv cv at *
  cases hrB : riseb B with
  | false =>
    have HE := hid (Hbad.out (.inl hrB))
    rw [hrB] at hr1
    clear hrB
    go_enter Tryz.func68, Tryz.ntmps68
    go_wp2_with fail
    rw [← hwz]
    clear hwz
    refine (hr1.out wz (Below.refl _ _)).mono ?_
    rintro e w1 ⟨rfl, hp1⟩
    have hx := hid hp1
    clear hp1
    go_wp2
    go_ret
    exact ⟨by rw [HE.out]; rfl, Hpz.out.then_ hx.out⟩
  | true =>
  cases hrC : riseb C with
  | false =>
    have HE := hid (Hbad.out (.inr (.inl hrC)))
    rw [hrB] at hr1
    rw [hrC] at hr2
    clear hrB hrC
    go_enter Tryz.func68, Tryz.ntmps68
    go_wp2_with fail
    rw [← hwz]
    clear hwz
    refine (hr1.out wz (Below.refl _ _)).mono ?_
    rintro e w1 ⟨rfl, hp1⟩
    have Hp1 := hid hp1
    obtain ⟨g0, g1⟩ := hC.out w1 hp1
    clear hp1
    go_wp2_with fail
    refine (hr2.out w1 Hp1.out).mono ?_
    rintro e w2 ⟨rfl, hp2⟩
    have hx := hid (Hp1.out.then_ hp2)
    clear hp2
    go_wp2
    go_ret
    exact ⟨by rw [HE.out]; rfl, Hpz.out.then_ hx.out⟩
  | true =>
  rw [hrB] at hr1
  rw [hrC] at hr2
  have HrB := hid hrB
  have HrC := hid hrC
  clear hrB hrC
  go_enter Tryz.func68, Tryz.ntmps68
  go_wp2_with fail
  rw [← hwz]
  clear hwz
  refine (hr1.out wz (Below.refl _ _)).mono ?_
  rintro e w1 ⟨rfl, hp1⟩
  have Hp1 := hid hp1
  obtain ⟨g0, g1⟩ := hC.out w1 hp1
  clear hp1
  go_wp2_with fail
  refine (hr2.out w1 Hp1.out).mono ?_
  rintro e w2 ⟨rfl, hp2⟩
  have Hp2 := hid (Hp1.out.then_ hp2)
  obtain ⟨g0, g1⟩ := hC.out w2 Hp2.out
  clear hp2
  go_wp2_with fail
  go_loopw [20] (fun i wr => ∃ k : Nat, k ≤ B.length ∧ i = .int .i64 k ∧ allB k (cat0 B) = true ∧ Pure wz wr) (fun i _ => B.length - (RowKit.intOf i).toNat)
  case atStart => exact ⟨0, Nat.zero_le _, rfl, rfl, Hp2.out⟩
  case round =>
    obtain ⟨k, hk, rfl, hal, hp⟩ := hrel
    have Hp := hid hp
    have Hal := hid hal
    clear hal
    by_cases hlt : k < B.length
    · have hlt' : (k : Int) < (B.length : Int) := by omega
      have Hrow := hid (HB.out wr hp)
      obtain ⟨b, off, rfl, hb, x0, x1⟩ := Dots.get Hrow.out hlt
      obtain ⟨Wd, hWd⟩ : ∃ Wd, Wd = wr.alloc (.cells #[.int .i64 (B.getD k (0, 0)).1, .int .i64 (B.getD k (0, 0)).2] 28) := ⟨_, rfl⟩
      have hpd : Pure wr Wd := by rw [hWd]; exact (Below.refl _ _).alloc (Nat.le_refl _) _
      have hbd : Wd.heap[wr.heap.size]? = some (.cells #[.int .i64 (B.getD k (0, 0)).1, .int .i64 (B.getD k (0, 0)).2] 28 (0, 0)) := by rw [hWd]; exact block_alloc_new _ _
      have hck2 := hid (fun W => hck.out (B.getD k (0, 0)) W)
      obtain ⟨D, hD⟩ : ∃ D, D = dchk (B.getD k (0, 0)) := ⟨_, rfl⟩
      rw [← hD] at hck2
      cases D with
      | false =>
        have HE := hid (Hbad.out (.inr (.inr (.inl (allB_false hlt (by unfold cat0; rw [← hD]; rfl))))))
        clear hD
        generalize B.getD k (0, 0) = z at *
        obtain ⟨z1, z2⟩ := z
        dsimp only at x0 x1 hbd hWd hck2
        have hS : Hid (∀ W, Pure Wd W → (W.cell? ⟨wr.heap.size, 0, none⟩ = some (.int .i64 z1) ∧ W.cell? ⟨wr.heap.size, 1, none⟩ = some (.int .i64 z2) ∧ Pure Wd W)) := fun W hW => by
          have ed := (hW.block _ (lt_of_block hbd)).trans hbd
          exact ⟨cell_of_block ed 0, cell_of_block ed 1, hW⟩
        have hst := hid (hS.out Wd.drew (Below.refl _ _).drew)
        have hS2 : Hid (∀ W : World, (W.cell? ⟨wr.heap.size, 0, none⟩ = some (.int .i64 z1) ∧ W.cell? ⟨wr.heap.size, 1, none⟩ = some (.int .i64 z2) ∧ Pure Wd W) → Pure Wd W) := fun W h => h.2.2
        have Hpd := hid hpd
        clear hp hb hbd hpd
        go_wp2_with fail
        rw [← hWd]
        clear hWd
        refine wp_region_held_drew (S := (fun W => W.cell? ⟨wr.heap.size, 0, none⟩ = some (.int .i64 z1) ∧ W.cell? ⟨wr.heap.size, 1, none⟩ = some (.int .i64 z2) ∧ Pure Wd W)) (by kernel_rfl) ?_ (fun hHeld => ?_)
        · first | assumption | with_reducible exact hst.out | with_reducible exact hS.out _ (Pure.then_ (hS2.out _ (by assumption)) (by assumption))
        refine wpAnyH_take (i := 0) (v := ?_) rfl (by kernel_rfl) (by kernel_rfl) (by kernel_rfl) (fun _ _ _ h => h) (Or.inl ⟨by rfl, ?_⟩) (by assumption) ?_
        rotate_left
        · intro w hSw; (try dsimp only at hSw); (try simp only [List.getElem_toArray, List.getElem_cons_zero]); go_simp; try with_reducible rfl
        try simp only [Act.put, List.setIfInBounds_toArray, List.set_cons_zero, List.set_cons_succ, List.getElem_toArray, List.getElem_cons_zero]
        refine wpAnyH_ready (rs := [1]) (by kernel_rfl) (by simp) ?_
        refine AllReadyH.cons rfl (fun K hK => ?_) AllReadyH.nil
        (try simp only [List.getElem_toArray, List.getElem_cons_succ, List.getElem_cons_zero])
        go_simp
        go_at_call 39; (with_reducible refine (hck2.out _).mono ?_); rintro e w7 ⟨rfl, hp7⟩; go_wp2_with fail
        refine hK.out _ _ ?_ (fun hHeld => ?_)
        · first | assumption | with_reducible exact hst.out | with_reducible exact hS.out _ (Pure.then_ (hS2.out _ (by assumption)) (by assumption))
        clear hK K
        try simp only [Act.put, List.setIfInBounds_toArray, List.set_cons_zero, List.set_cons_succ, List.getElem_toArray, List.getElem_cons_succ, List.getElem_cons_zero]
        refine wpAnyH_take (i := 2) (v := ?_) rfl (by kernel_rfl) (by kernel_rfl) (by kernel_rfl) (fun _ _ _ h => h) (Or.inl ⟨by rfl, ?_⟩) (by assumption) ?_
        rotate_left
        · intro w hSw; (try dsimp only at hSw); (try simp only [List.getElem_toArray, List.getElem_cons_succ, List.getElem_cons_zero]); go_simp; try with_reducible rfl
        try simp only [Act.put, List.setIfInBounds_toArray, List.set_cons_zero, List.set_cons_succ, List.getElem_toArray, List.getElem_cons_succ, List.getElem_cons_zero]
        refine wpAnyH_take (i := 3) (v := ?_) rfl (by kernel_rfl) (by kernel_rfl) (by kernel_rfl) (fun _ _ _ h => h) (Or.inl ⟨by rfl, ?_⟩) (by assumption) ?_
        rotate_left
        · intro w hSw; (try dsimp only at hSw); (try simp only [List.getElem_toArray, List.getElem_cons_succ, List.getElem_cons_zero]); go_simp; try with_reducible rfl
        try simp only [Act.put, List.setIfInBounds_toArray, List.set_cons_zero, List.set_cons_succ, List.getElem_toArray, List.getElem_cons_succ, List.getElem_cons_zero]
        refine wpAnyH_take (i := 4) (v := undef) rfl (by kernel_rfl) (by kernel_rfl) (by kernel_rfl) (fun _ _ _ h => h) (Or.inr ⟨by rfl, rfl⟩) (by assumption) ?_
        try simp only [Act.put, List.setIfInBounds_toArray, List.set_cons_zero, List.set_cons_succ, List.getElem_toArray, List.getElem_cons_succ, List.getElem_cons_zero]
        refine wpAnyH_take (i := 5) (v := undef) rfl (by kernel_rfl) (by kernel_rfl) (by kernel_rfl) (fun _ _ _ h => h) (Or.inr ⟨by rfl, rfl⟩) (by assumption) ?_
        try simp only [Act.put, List.setIfInBounds_toArray, List.set_cons_zero, List.set_cons_succ, List.getElem_toArray, List.getElem_cons_succ, List.getElem_cons_zero]
        refine wpAnyH_take (i := 6) (v := undef) rfl (by kernel_rfl) (by kernel_rfl) (by kernel_rfl) (fun _ _ _ h => h) (Or.inr ⟨by rfl, rfl⟩) (by assumption) ?_
        try simp only [Act.put, List.setIfInBounds_toArray, List.set_cons_zero, List.set_cons_succ, List.getElem_toArray, List.getElem_cons_succ, List.getElem_cons_zero]
        refine wpAnyH_take (i := 7) (v := undef) rfl (by kernel_rfl) (by kernel_rfl) (by kernel_rfl) (fun _ _ _ h => h) (Or.inr ⟨by rfl, rfl⟩) (by assumption) ?_
        try simp only [Act.put, List.setIfInBounds_toArray, List.set_cons_zero, List.set_cons_succ, List.getElem_toArray, List.getElem_cons_succ, List.getElem_cons_zero]
        refine wpAnyH_take (i := 8) (v := undef) rfl (by kernel_rfl) (by kernel_rfl) (by kernel_rfl) (fun _ _ _ h => h) (Or.inr ⟨by rfl, rfl⟩) (by assumption) ?_
        try simp only [Act.put, List.setIfInBounds_toArray, List.set_cons_zero, List.set_cons_succ, List.getElem_toArray, List.getElem_cons_succ, List.getElem_cons_zero]
        refine wpAnyH_take (i := 9) (v := undef) rfl (by kernel_rfl) (by kernel_rfl) (by kernel_rfl) (fun _ _ _ h => h) (Or.inr ⟨by rfl, rfl⟩) (by assumption) ?_
        try simp only [Act.put, List.setIfInBounds_toArray, List.set_cons_zero, List.set_cons_succ, List.getElem_toArray, List.getElem_cons_succ, List.getElem_cons_zero]
        refine wpAnyH_take (i := 10) (v := undef) rfl (by kernel_rfl) (by kernel_rfl) (by kernel_rfl) (fun _ _ _ h => h) (Or.inr ⟨by rfl, rfl⟩) (by assumption) ?_
        try simp only [Act.put, List.setIfInBounds_toArray, List.set_cons_zero, List.set_cons_succ, List.getElem_toArray, List.getElem_cons_succ, List.getElem_cons_zero]
        refine wpAnyH_take (i := 11) (v := undef) rfl (by kernel_rfl) (by kernel_rfl) (by kernel_rfl) (fun _ _ _ h => h) (Or.inr ⟨by rfl, rfl⟩) (by assumption) ?_
        try simp only [Act.put, List.setIfInBounds_toArray, List.set_cons_zero, List.set_cons_succ, List.getElem_toArray, List.getElem_cons_succ, List.getElem_cons_zero]
        refine wpAnyH_take (i := 12) (v := undef) rfl (by kernel_rfl) (by kernel_rfl) (by kernel_rfl) (fun _ _ _ h => h) (Or.inr ⟨by rfl, rfl⟩) (by assumption) ?_
        try simp only [Act.put, List.setIfInBounds_toArray, List.set_cons_zero, List.set_cons_succ, List.getElem_toArray, List.getElem_cons_succ, List.getElem_cons_zero]
        refine wpAnyH_take (i := 13) (v := undef) rfl (by kernel_rfl) (by kernel_rfl) (by kernel_rfl) (fun _ _ _ h => h) (Or.inr ⟨by rfl, rfl⟩) (by assumption) ?_
        try simp only [Act.put, List.setIfInBounds_toArray, List.set_cons_zero, List.set_cons_succ, List.getElem_toArray, List.getElem_cons_succ, List.getElem_cons_zero]
        refine wpAnyH_take (i := 14) (v := undef) rfl (by kernel_rfl) (by kernel_rfl) (by kernel_rfl) (fun _ _ _ h => h) (Or.inr ⟨by rfl, rfl⟩) (by assumption) ?_
        try simp only [Act.put, List.setIfInBounds_toArray, List.set_cons_zero, List.set_cons_succ, List.getElem_toArray, List.getElem_cons_succ, List.getElem_cons_zero]
        refine wpAnyH_take (i := 15) (v := undef) rfl (by kernel_rfl) (by kernel_rfl) (by kernel_rfl) (fun _ _ _ h => h) (Or.inr ⟨by rfl, rfl⟩) (by assumption) ?_
        try simp only [Act.put, List.setIfInBounds_toArray, List.set_cons_zero, List.set_cons_succ, List.getElem_toArray, List.getElem_cons_succ, List.getElem_cons_zero]
        refine wpAnyH_take (i := 16) (v := undef) rfl (by kernel_rfl) (by kernel_rfl) (by kernel_rfl) (fun _ _ _ h => h) (Or.inr ⟨by rfl, rfl⟩) (by assumption) ?_
        try simp only [Act.put, List.setIfInBounds_toArray, List.set_cons_zero, List.set_cons_succ, List.getElem_toArray, List.getElem_cons_succ, List.getElem_cons_zero]
        refine wpAnyH_take (i := 17) (v := undef) rfl (by kernel_rfl) (by kernel_rfl) (by kernel_rfl) (fun _ _ _ h => h) (Or.inr ⟨by rfl, rfl⟩) (by assumption) ?_
        try simp only [Act.put, List.setIfInBounds_toArray, List.set_cons_zero, List.set_cons_succ, List.getElem_toArray, List.getElem_cons_succ, List.getElem_cons_zero]
        refine wpAnyH_take (i := 18) (v := ?_) rfl (by kernel_rfl) (by kernel_rfl) (by kernel_rfl) (fun _ _ _ h => h) (Or.inl ⟨by rfl, ?_⟩) (by assumption) ?_
        rotate_left
        · intro w hSw; (try dsimp only at hSw); (try simp only [List.getElem_toArray, List.getElem_cons_succ, List.getElem_cons_zero]); go_simp; try with_reducible rfl
        try simp only [Act.put, List.setIfInBounds_toArray, List.set_cons_zero, List.set_cons_succ, List.getElem_toArray, List.getElem_cons_succ, List.getElem_cons_zero]
        refine wpAnyH_done (by kernel_rfl) ?_ _
        have hx := hid (Hp.out.then_ (Pure.then_ Hpd.out (hS2.out w7 (by assumption))))
        clear hp7 hst hS hS2
        go_wp2
        go_ret
        exact ⟨by rw [HE.out]; rfl, Hpz.out.then_ hx.out⟩
      | true =>
      have HD := hid hD
      clear hD
      by_cases h0 : 0 < k
      · have h0' : (0 : Int) < (k : Int) := by omega
        have hsub : IntKind.i64.wrap ((k : Int) - 1) = ((k - 1 : Nat) : Int) := by rw [IntWalk.i64_in _ (by omega)]; omega
        have hsub2 : (k : Int) - 1 = ((k - 1 : Nat) : Int) := by omega
        have hlt2 : ((k - 1 : Nat) : Int) < (B.length : Int) := by omega
        have hn : (0 : Int) ≤ ((k - 1 : Nat) : Int) := by omega
        have hwm : IntKind.i64.wrap (((k - 1 : Nat) : Nat) : Int) = ((k - 1 : Nat) : Int) := IntWalk.i64_in _ (by omega)
        obtain ⟨b', off', e', hb', y0, y1⟩ := Dots.get Hrow.out (show k - 1 < B.length by omega)
        cases e'
        have Hno := hid (fun (e : (B.getD (k - 1) (0, 0)).1 = (B.getD k (0, 0)).1) => Hbad.out (.inr (.inr (.inl (allB_false hlt (show cat0 B k = false from by unfold cat0; rw [decide_eq_false (show ¬ k = 0 by omega), decide_eq_true e]; simp))))))
        have Hyes := hid (fun (e : (B.getD (k - 1) (0, 0)).1 ≠ (B.getD k (0, 0)).1) => allB_next Hal.out (show cat0 B k = true from by unfold cat0; rw [← HD.out, decide_eq_false e]; simp))
        generalize B.getD k (0, 0) = z at *
        generalize B.getD (k - 1) (0, 0) = y at *
        obtain ⟨z1, z2⟩ := z
        obtain ⟨q1, q2⟩ := y
        dsimp only at x0 x1 y0 y1 hbd hWd hck2 Hno Hyes
        by_cases hq : q1 = z1
        · have hqz : (q1 == z1) = true := by simp [hq]
          have HE := hid (Hno.out hq)
          clear Hno Hyes hq
          have hS : Hid (∀ W, Pure Wd W → (W.cell? ⟨w.heap.size, 0, none⟩ = some (.slice (some ⟨b, off, none⟩) B.length c0) ∧ W.cell? ⟨b, off + (k - 1) * 2, none⟩ = some (.int .i64 q1) ∧ W.cell? ⟨wr.heap.size, 0, none⟩ = some (.int .i64 z1) ∧ W.cell? ⟨wr.heap.size, 1, none⟩ = some (.int .i64 z2) ∧ Pure Wd W)) := fun W hW => by
            have hwb := Pure.then_ hpd hW
            have ed := (hW.block _ (lt_of_block hbd)).trans hbd
            exact ⟨(hC.out W (hp.then_ hwb)).1, (hwb.cell hb').trans y0, cell_of_block ed 0, cell_of_block ed 1, hW⟩
          have hst := hid (hS.out Wd.drew (Below.refl _ _).drew)
          have hS2 : Hid (∀ W : World, (W.cell? ⟨w.heap.size, 0, none⟩ = some (.slice (some ⟨b, off, none⟩) B.length c0) ∧ W.cell? ⟨b, off + (k - 1) * 2, none⟩ = some (.int .i64 q1) ∧ W.cell? ⟨wr.heap.size, 0, none⟩ = some (.int .i64 z1) ∧ W.cell? ⟨wr.heap.size, 1, none⟩ = some (.int .i64 z2) ∧ Pure Wd W) → Pure Wd W) := fun W h => h.2.2.2.2
          have Hpd := hid hpd
          clear hp hb hb' y0 y1 hbd hpd
          generalize hj : k - 1 = j at *
          go_wp2_with fail
          rw [← hWd]
          clear hWd
          first
          | go_region_held3 (fun W => W.cell? ⟨w.heap.size, 0, none⟩ = some (.slice (some ⟨b, off, none⟩) B.length c0) ∧ W.cell? ⟨b, off + j * 2, none⟩ = some (.int .i64 q1) ∧ W.cell? ⟨wr.heap.size, 0, none⟩ = some (.int .i64 z1) ∧ W.cell? ⟨wr.heap.size, 1, none⟩ = some (.int .i64 z2) ∧ Pure Wd W)
              (first | assumption | with_reducible exact hst.out | with_reducible exact hS.out _ (Pure.then_ (hS2.out _ (by assumption)) (by assumption)))
              ((go_at_call 39; (with_reducible refine (hck2.out _).mono ?_); rintro e w7 ⟨rfl, hp7⟩))
          | fail
          have hx := hid (Hp.out.then_ (Pure.then_ Hpd.out (hS2.out w7 (by assumption))))
          clear hp7 hst hS hS2
          go_wp2
          go_ret
          exact ⟨by rw [HE.out]; rfl, Hpz.out.then_ hx.out⟩
        · have hqz : (q1 == z1) = false := by simp [hq]
          have HN := hid (Hyes.out hq)
          clear Hno Hyes hq
          have hS : Hid (∀ W, Pure Wd W → (W.cell? ⟨w.heap.size, 0, none⟩ = some (.slice (some ⟨b, off, none⟩) B.length c0) ∧ W.cell? ⟨b, off + (k - 1) * 2, none⟩ = some (.int .i64 q1) ∧ W.cell? ⟨wr.heap.size, 0, none⟩ = some (.int .i64 z1) ∧ W.cell? ⟨wr.heap.size, 1, none⟩ = some (.int .i64 z2) ∧ Pure Wd W)) := fun W hW => by
            have hwb := Pure.then_ hpd hW
            have ed := (hW.block _ (lt_of_block hbd)).trans hbd
            exact ⟨(hC.out W (hp.then_ hwb)).1, (hwb.cell hb').trans y0, cell_of_block ed 0, cell_of_block ed 1, hW⟩
          have hst := hid (hS.out Wd.drew (Below.refl _ _).drew)
          have hS2 : Hid (∀ W : World, (W.cell? ⟨w.heap.size, 0, none⟩ = some (.slice (some ⟨b, off, none⟩) B.length c0) ∧ W.cell? ⟨b, off + (k - 1) * 2, none⟩ = some (.int .i64 q1) ∧ W.cell? ⟨wr.heap.size, 0, none⟩ = some (.int .i64 z1) ∧ W.cell? ⟨wr.heap.size, 1, none⟩ = some (.int .i64 z2) ∧ Pure Wd W) → Pure Wd W) := fun W h => h.2.2.2.2
          have Hpd := hid hpd
          clear hp hb hb' y0 y1 hbd hpd
          generalize hj : k - 1 = j at *
          go_wp2_with fail
          rw [← hWd]
          clear hWd
          first
          | go_region_held3 (fun W => W.cell? ⟨w.heap.size, 0, none⟩ = some (.slice (some ⟨b, off, none⟩) B.length c0) ∧ W.cell? ⟨b, off + j * 2, none⟩ = some (.int .i64 q1) ∧ W.cell? ⟨wr.heap.size, 0, none⟩ = some (.int .i64 z1) ∧ W.cell? ⟨wr.heap.size, 1, none⟩ = some (.int .i64 z2) ∧ Pure Wd W)
              (first | assumption | with_reducible exact hst.out | with_reducible exact hS.out _ (Pure.then_ (hS2.out _ (by assumption)) (by assumption)))
              ((go_at_call 39; (with_reducible refine (hck2.out _).mono ?_); rintro e w7 ⟨rfl, hp7⟩))
          | fail
          have hx := hid (Hp.out.then_ (Pure.then_ Hpd.out (hS2.out w7 (by assumption))))
          clear hp7 hst hS hS2
          go_wp2
          go_roundw
          case rel => exact ⟨k + 1, by omega, by go_num, HN.out, hx.out⟩
          case measure => simp [RowKit.intOf]; omega
      · have hg : decide ((0 : Int) < (k : Int)) = false := by simp; omega
        have HN := hid (allB_next Hal.out (show cat0 B k = true from by unfold cat0; rw [← HD.out, decide_eq_true (show k = 0 by omega)]; rfl))
        generalize B.getD k (0, 0) = z at *
        obtain ⟨z1, z2⟩ := z
        dsimp only at x0 x1 hbd hWd hck2
        have hS : Hid (∀ W, Pure Wd W → (W.cell? ⟨wr.heap.size, 0, none⟩ = some (.int .i64 z1) ∧ W.cell? ⟨wr.heap.size, 1, none⟩ = some (.int .i64 z2) ∧ Pure Wd W)) := fun W hW => by
          have ed := (hW.block _ (lt_of_block hbd)).trans hbd
          exact ⟨cell_of_block ed 0, cell_of_block ed 1, hW⟩
        have hst := hid (hS.out Wd.drew (Below.refl _ _).drew)
        have hS2 : Hid (∀ W : World, (W.cell? ⟨wr.heap.size, 0, none⟩ = some (.int .i64 z1) ∧ W.cell? ⟨wr.heap.size, 1, none⟩ = some (.int .i64 z2) ∧ Pure Wd W) → Pure Wd W) := fun W h => h.2.2
        have Hpd := hid hpd
        clear hp hb hbd hpd
        go_wp2_with fail
        rw [← hWd]
        clear hWd
        refine wp_region_held_drew (S := (fun W => W.cell? ⟨wr.heap.size, 0, none⟩ = some (.int .i64 z1) ∧ W.cell? ⟨wr.heap.size, 1, none⟩ = some (.int .i64 z2) ∧ Pure Wd W)) (by kernel_rfl) ?_ (fun hHeld => ?_)
        · first | assumption | with_reducible exact hst.out | with_reducible exact hS.out _ (Pure.then_ (hS2.out _ (by assumption)) (by assumption))
        refine wpAnyH_take (i := 0) (v := ?_) rfl (by kernel_rfl) (by kernel_rfl) (by kernel_rfl) (fun _ _ _ h => h) (Or.inl ⟨by rfl, ?_⟩) (by assumption) ?_
        rotate_left
        · intro w hSw; (try dsimp only at hSw); (try simp only [List.getElem_toArray, List.getElem_cons_zero]); go_simp; try with_reducible rfl
        try simp only [Act.put, List.setIfInBounds_toArray, List.set_cons_zero, List.set_cons_succ, List.getElem_toArray, List.getElem_cons_zero]
        refine wpAnyH_ready (rs := [1]) (by kernel_rfl) (by simp) ?_
        refine AllReadyH.cons rfl (fun K hK => ?_) AllReadyH.nil
        (try simp only [List.getElem_toArray, List.getElem_cons_succ, List.getElem_cons_zero])
        go_simp
        go_at_call 39; (with_reducible refine (hck2.out _).mono ?_); rintro e w7 ⟨rfl, hp7⟩; go_wp2_with fail
        refine hK.out _ _ ?_ (fun hHeld => ?_)
        · first | assumption | with_reducible exact hst.out | with_reducible exact hS.out _ (Pure.then_ (hS2.out _ (by assumption)) (by assumption))
        clear hK K
        try simp only [Act.put, List.setIfInBounds_toArray, List.set_cons_zero, List.set_cons_succ, List.getElem_toArray, List.getElem_cons_succ, List.getElem_cons_zero]
        refine wpAnyH_take (i := 2) (v := ?_) rfl (by kernel_rfl) (by kernel_rfl) (by kernel_rfl) (fun _ _ _ h => h) (Or.inl ⟨by rfl, ?_⟩) (by assumption) ?_
        rotate_left
        · intro w hSw; (try dsimp only at hSw); (try simp only [List.getElem_toArray, List.getElem_cons_succ, List.getElem_cons_zero]); go_simp; try with_reducible rfl
        try simp only [Act.put, List.setIfInBounds_toArray, List.set_cons_zero, List.set_cons_succ, List.getElem_toArray, List.getElem_cons_succ, List.getElem_cons_zero]
        refine wpAnyH_take (i := 3) (v := ?_) rfl (by kernel_rfl) (by kernel_rfl) (by kernel_rfl) (fun _ _ _ h => h) (Or.inl ⟨by rfl, ?_⟩) (by assumption) ?_
        rotate_left
        · intro w hSw; (try dsimp only at hSw); (try simp only [List.getElem_toArray, List.getElem_cons_succ, List.getElem_cons_zero]); go_simp; try with_reducible rfl
        try simp only [Act.put, List.setIfInBounds_toArray, List.set_cons_zero, List.set_cons_succ, List.getElem_toArray, List.getElem_cons_succ, List.getElem_cons_zero]
        refine wpAnyH_take (i := 4) (v := ?_) rfl (by kernel_rfl) (by kernel_rfl) (by kernel_rfl) (fun _ _ _ h => h) (Or.inl ⟨by rfl, ?_⟩) (by assumption) ?_
        rotate_left
        · intro w hSw; (try dsimp only at hSw); (try simp only [List.getElem_toArray, List.getElem_cons_succ, List.getElem_cons_zero]); go_simp; try with_reducible rfl
        try simp only [Act.put, List.setIfInBounds_toArray, List.set_cons_zero, List.set_cons_succ, List.getElem_toArray, List.getElem_cons_succ, List.getElem_cons_zero]
        refine wpAnyH_take (i := 5) (v := ?_) rfl (by kernel_rfl) (by kernel_rfl) (by kernel_rfl) (fun _ _ _ h => h) (Or.inl ⟨by rfl, ?_⟩) (by assumption) ?_
        rotate_left
        · intro w hSw; (try dsimp only at hSw); (try simp only [List.getElem_toArray, List.getElem_cons_succ, List.getElem_cons_zero]); go_simp; try with_reducible rfl
        try simp only [Act.put, List.setIfInBounds_toArray, List.set_cons_zero, List.set_cons_succ, List.getElem_toArray, List.getElem_cons_succ, List.getElem_cons_zero]
        refine wpAnyH_take (i := 6) (v := ?_) rfl (by kernel_rfl) (by kernel_rfl) (by kernel_rfl) (fun _ _ _ h => h) (Or.inl ⟨by rfl, ?_⟩) (by assumption) ?_
        rotate_left
        · intro w hSw; (try dsimp only at hSw); (try simp only [List.getElem_toArray, List.getElem_cons_succ, List.getElem_cons_zero]); go_simp; try with_reducible rfl
        try simp only [Act.put, List.setIfInBounds_toArray, List.set_cons_zero, List.set_cons_succ, List.getElem_toArray, List.getElem_cons_succ, List.getElem_cons_zero]
        refine wpAnyH_take (i := 7) (v := undef) rfl (by kernel_rfl) (by kernel_rfl) (by kernel_rfl) (fun _ _ _ h => h) (Or.inr ⟨by rfl, rfl⟩) (by assumption) ?_
        try simp only [Act.put, List.setIfInBounds_toArray, List.set_cons_zero, List.set_cons_succ, List.getElem_toArray, List.getElem_cons_succ, List.getElem_cons_zero]
        refine wpAnyH_take (i := 8) (v := undef) rfl (by kernel_rfl) (by kernel_rfl) (by kernel_rfl) (fun _ _ _ h => h) (Or.inr ⟨by rfl, rfl⟩) (by assumption) ?_
        try simp only [Act.put, List.setIfInBounds_toArray, List.set_cons_zero, List.set_cons_succ, List.getElem_toArray, List.getElem_cons_succ, List.getElem_cons_zero]
        refine wpAnyH_take (i := 9) (v := undef) rfl (by kernel_rfl) (by kernel_rfl) (by kernel_rfl) (fun _ _ _ h => h) (Or.inr ⟨by rfl, rfl⟩) (by assumption) ?_
        try simp only [Act.put, List.setIfInBounds_toArray, List.set_cons_zero, List.set_cons_succ, List.getElem_toArray, List.getElem_cons_succ, List.getElem_cons_zero]
        refine wpAnyH_take (i := 10) (v := undef) rfl (by kernel_rfl) (by kernel_rfl) (by kernel_rfl) (fun _ _ _ h => h) (Or.inr ⟨by rfl, rfl⟩) (by assumption) ?_
        try simp only [Act.put, List.setIfInBounds_toArray, List.set_cons_zero, List.set_cons_succ, List.getElem_toArray, List.getElem_cons_succ, List.getElem_cons_zero]
        refine wpAnyH_take (i := 11) (v := undef) rfl (by kernel_rfl) (by kernel_rfl) (by kernel_rfl) (fun _ _ _ h => h) (Or.inr ⟨by rfl, rfl⟩) (by assumption) ?_
        try simp only [Act.put, List.setIfInBounds_toArray, List.set_cons_zero, List.set_cons_succ, List.getElem_toArray, List.getElem_cons_succ, List.getElem_cons_zero]
        refine wpAnyH_take (i := 12) (v := undef) rfl (by kernel_rfl) (by kernel_rfl) (by kernel_rfl) (fun _ _ _ h => h) (Or.inr ⟨by rfl, rfl⟩) (by assumption) ?_
        try simp only [Act.put, List.setIfInBounds_toArray, List.set_cons_zero, List.set_cons_succ, List.getElem_toArray, List.getElem_cons_succ, List.getElem_cons_zero]
        refine wpAnyH_take (i := 13) (v := undef) rfl (by kernel_rfl) (by kernel_rfl) (by kernel_rfl) (fun _ _ _ h => h) (Or.inr ⟨by rfl, rfl⟩) (by assumption) ?_
        try simp only [Act.put, List.setIfInBounds_toArray, List.set_cons_zero, List.set_cons_succ, List.getElem_toArray, List.getElem_cons_succ, List.getElem_cons_zero]
        refine wpAnyH_take (i := 14) (v := undef) rfl (by kernel_rfl) (by kernel_rfl) (by kernel_rfl) (fun _ _ _ h => h) (Or.inr ⟨by rfl, rfl⟩) (by assumption) ?_
        try simp only [Act.put, List.setIfInBounds_toArray, List.set_cons_zero, List.set_cons_succ, List.getElem_toArray, List.getElem_cons_succ, List.getElem_cons_zero]
        refine wpAnyH_take (i := 15) (v := undef) rfl (by kernel_rfl) (by kernel_rfl) (by kernel_rfl) (fun _ _ _ h => h) (Or.inr ⟨by rfl, rfl⟩) (by assumption) ?_
        try simp only [Act.put, List.setIfInBounds_toArray, List.set_cons_zero, List.set_cons_succ, List.getElem_toArray, List.getElem_cons_succ, List.getElem_cons_zero]
        refine wpAnyH_take (i := 16) (v := undef) rfl (by kernel_rfl) (by kernel_rfl) (by kernel_rfl) (fun _ _ _ h => h) (Or.inr ⟨by rfl, rfl⟩) (by assumption) ?_
        try simp only [Act.put, List.setIfInBounds_toArray, List.set_cons_zero, List.set_cons_succ, List.getElem_toArray, List.getElem_cons_succ, List.getElem_cons_zero]
        refine wpAnyH_take (i := 17) (v := ?_) rfl (by kernel_rfl) (by kernel_rfl) (by kernel_rfl) (fun _ _ _ h => h) (Or.inl ⟨by rfl, ?_⟩) (by assumption) ?_
        rotate_left
        · intro w hSw; (try dsimp only at hSw); (try simp only [List.getElem_toArray, List.getElem_cons_succ, List.getElem_cons_zero]); go_simp; try with_reducible rfl
        try simp only [Act.put, List.setIfInBounds_toArray, List.set_cons_zero, List.set_cons_succ, List.getElem_toArray, List.getElem_cons_succ, List.getElem_cons_zero]
        refine wpAnyH_take (i := 18) (v := ?_) rfl (by kernel_rfl) (by kernel_rfl) (by kernel_rfl) (fun _ _ _ h => h) (Or.inl ⟨by rfl, ?_⟩) (by assumption) ?_
        rotate_left
        · intro w hSw; (try dsimp only at hSw); (try simp only [List.getElem_toArray, List.getElem_cons_succ, List.getElem_cons_zero]); go_simp; try with_reducible rfl
        try simp only [Act.put, List.setIfInBounds_toArray, List.set_cons_zero, List.set_cons_succ, List.getElem_toArray, List.getElem_cons_succ, List.getElem_cons_zero]
        refine wpAnyH_done (by kernel_rfl) ?_ _
        have hx := hid (Hp.out.then_ (Pure.then_ Hpd.out (hS2.out w7 (by assumption))))
        clear hp7 hst hS hS2
        go_wp2
        go_roundw
        case rel => exact ⟨k + 1, by omega, by go_num, HN.out, hx.out⟩
        case measure => simp [RowKit.intOf]; omega
    · obtain rfl : k = B.length := by omega
      have hlt' : ¬ (B.length : Int) < (B.length : Int) := by omega
      have HalB := hid Hal.out
      have hokB : ∀ d ∈ B, dok d := fun d hd => by
        obtain ⟨k, hk, rfl⟩ := get_mem (z := ((0, 0) : Dot)) hd
        have := allB_iff.1 HalB.out k hk
        unfold cat0 at this
        rw [Bool.and_eq_true, dchk_iff] at this
        exact this.1
      have HokB := hid hokB
      have hup := hid (hup.out (riseb_iff.1 HrB.out) (fun d hd => by have := HokB.out d hd; unfold dok at this; omega))
      obtain ⟨g0, g1⟩ := hC.out wr hp
      clear hp hokB Hal
      go_wp2_with fail
      go_loopw [48] (fun i wr => ∃ k : Nat, k ≤ C.length ∧ i = .int .i64 k ∧ allB k (cat1 B C) = true ∧ Pure wz wr) (fun i _ => C.length - (RowKit.intOf i).toNat)
      case atStart => exact ⟨0, Nat.zero_le _, rfl, rfl, Hp.out⟩
      case round =>
        clear Hp g0 g1 hk hlt hlt'
        obtain ⟨k, hk, rfl, hal, hp⟩ := hrel
        have Hp := hid hp
        have Hal := hid hal
        clear hal
        by_cases hlt : k < C.length
        · have hlt' : (k : Int) < (C.length : Int) := by omega
          have Hrow := hid (HC.out wr hp)
          obtain ⟨b, off, rfl, hb, x0, x1⟩ := Dots.get Hrow.out hlt
          obtain ⟨Wd, hWd⟩ : ∃ Wd, Wd = wr.alloc (.cells #[.int .i64 (C.getD k (0, 0)).1, .int .i64 (C.getD k (0, 0)).2] 28) := ⟨_, rfl⟩
          have hpd : Pure wr Wd := by rw [hWd]; exact (Below.refl _ _).alloc (Nat.le_refl _) _
          have hbd : Wd.heap[wr.heap.size]? = some (.cells #[.int .i64 (C.getD k (0, 0)).1, .int .i64 (C.getD k (0, 0)).2] 28 (0, 0)) := by rw [hWd]; exact block_alloc_new _ _
          have hck2 := hid (fun W => hck.out (C.getD k (0, 0)) W)
          obtain ⟨D, hD⟩ : ∃ D, D = dchk (C.getD k (0, 0)) := ⟨_, rfl⟩
          rw [← hD] at hck2
          cases D with
          | false =>
            have HE := hid (Hbad.out (.inr (.inr (.inr (allB_false hlt (by unfold cat1; rw [← hD]; rfl))))))
            clear hD
            generalize C.getD k (0, 0) = z at *
            obtain ⟨z1, z2⟩ := z
            dsimp only at x0 x1 hbd hWd hck2
            have hS : Hid (∀ W, Pure Wd W → (W.cell? ⟨wr.heap.size, 0, none⟩ = some (.int .i64 z1) ∧ W.cell? ⟨wr.heap.size, 1, none⟩ = some (.int .i64 z2) ∧ Pure Wd W)) := fun W hW => by
              have ed := (hW.block _ (lt_of_block hbd)).trans hbd
              exact ⟨cell_of_block ed 0, cell_of_block ed 1, hW⟩
            have hst := hid (hS.out Wd.drew (Below.refl _ _).drew)
            have hS2 : Hid (∀ W : World, (W.cell? ⟨wr.heap.size, 0, none⟩ = some (.int .i64 z1) ∧ W.cell? ⟨wr.heap.size, 1, none⟩ = some (.int .i64 z2) ∧ Pure Wd W) → Pure Wd W) := fun W h => h.2.2
            have Hpd := hid hpd
            clear hp hb hbd hpd
            go_wp2_with fail
            rw [← hWd]
            clear hWd
            refine wp_region_held_drew (S := (fun W => W.cell? ⟨wr.heap.size, 0, none⟩ = some (.int .i64 z1) ∧ W.cell? ⟨wr.heap.size, 1, none⟩ = some (.int .i64 z2) ∧ Pure Wd W)) (by kernel_rfl) ?_ (fun hHeld => ?_)
            · first | assumption | with_reducible exact hst.out | with_reducible exact hS.out _ (Pure.then_ (hS2.out _ (by assumption)) (by assumption))
            refine wpAnyH_take (i := 0) (v := ?_) rfl (by kernel_rfl) (by kernel_rfl) (by kernel_rfl) (fun _ _ _ h => h) (Or.inl ⟨by rfl, ?_⟩) (by assumption) ?_
            rotate_left
            · intro w hSw; (try dsimp only at hSw); (try simp only [List.getElem_toArray, List.getElem_cons_zero]); go_simp; try with_reducible rfl
            try simp only [Act.put, List.setIfInBounds_toArray, List.set_cons_zero, List.set_cons_succ, List.getElem_toArray, List.getElem_cons_zero]
            refine wpAnyH_ready (rs := [1]) (by kernel_rfl) (by simp) ?_
            refine AllReadyH.cons rfl (fun K hK => ?_) AllReadyH.nil
            (try simp only [List.getElem_toArray, List.getElem_cons_succ, List.getElem_cons_zero])
            go_simp
            go_at_call 39; (with_reducible refine (hck2.out _).mono ?_); rintro e w7 ⟨rfl, hp7⟩; go_wp2_with fail
            refine hK.out _ _ ?_ (fun hHeld => ?_)
            · first | assumption | with_reducible exact hst.out | with_reducible exact hS.out _ (Pure.then_ (hS2.out _ (by assumption)) (by assumption))
            clear hK K
            try simp only [Act.put, List.setIfInBounds_toArray, List.set_cons_zero, List.set_cons_succ, List.getElem_toArray, List.getElem_cons_succ, List.getElem_cons_zero]
            refine wpAnyH_take (i := 2) (v := ?_) rfl (by kernel_rfl) (by kernel_rfl) (by kernel_rfl) (fun _ _ _ h => h) (Or.inl ⟨by rfl, ?_⟩) (by assumption) ?_
            rotate_left
            · intro w hSw; (try dsimp only at hSw); (try simp only [List.getElem_toArray, List.getElem_cons_succ, List.getElem_cons_zero]); go_simp; try with_reducible rfl
            try simp only [Act.put, List.setIfInBounds_toArray, List.set_cons_zero, List.set_cons_succ, List.getElem_toArray, List.getElem_cons_succ, List.getElem_cons_zero]
            refine wpAnyH_take (i := 3) (v := ?_) rfl (by kernel_rfl) (by kernel_rfl) (by kernel_rfl) (fun _ _ _ h => h) (Or.inl ⟨by rfl, ?_⟩) (by assumption) ?_
            rotate_left
            · intro w hSw; (try dsimp only at hSw); (try simp only [List.getElem_toArray, List.getElem_cons_succ, List.getElem_cons_zero]); go_simp; try with_reducible rfl
            try simp only [Act.put, List.setIfInBounds_toArray, List.set_cons_zero, List.set_cons_succ, List.getElem_toArray, List.getElem_cons_succ, List.getElem_cons_zero]
            refine wpAnyH_take (i := 4) (v := undef) rfl (by kernel_rfl) (by kernel_rfl) (by kernel_rfl) (fun _ _ _ h => h) (Or.inr ⟨by rfl, rfl⟩) (by assumption) ?_
            try simp only [Act.put, List.setIfInBounds_toArray, List.set_cons_zero, List.set_cons_succ, List.getElem_toArray, List.getElem_cons_succ, List.getElem_cons_zero]
            refine wpAnyH_take (i := 5) (v := undef) rfl (by kernel_rfl) (by kernel_rfl) (by kernel_rfl) (fun _ _ _ h => h) (Or.inr ⟨by rfl, rfl⟩) (by assumption) ?_
            try simp only [Act.put, List.setIfInBounds_toArray, List.set_cons_zero, List.set_cons_succ, List.getElem_toArray, List.getElem_cons_succ, List.getElem_cons_zero]
            refine wpAnyH_take (i := 6) (v := undef) rfl (by kernel_rfl) (by kernel_rfl) (by kernel_rfl) (fun _ _ _ h => h) (Or.inr ⟨by rfl, rfl⟩) (by assumption) ?_
            try simp only [Act.put, List.setIfInBounds_toArray, List.set_cons_zero, List.set_cons_succ, List.getElem_toArray, List.getElem_cons_succ, List.getElem_cons_zero]
            refine wpAnyH_take (i := 7) (v := undef) rfl (by kernel_rfl) (by kernel_rfl) (by kernel_rfl) (fun _ _ _ h => h) (Or.inr ⟨by rfl, rfl⟩) (by assumption) ?_
            try simp only [Act.put, List.setIfInBounds_toArray, List.set_cons_zero, List.set_cons_succ, List.getElem_toArray, List.getElem_cons_succ, List.getElem_cons_zero]
            refine wpAnyH_take (i := 8) (v := undef) rfl (by kernel_rfl) (by kernel_rfl) (by kernel_rfl) (fun _ _ _ h => h) (Or.inr ⟨by rfl, rfl⟩) (by assumption) ?_
            try simp only [Act.put, List.setIfInBounds_toArray, List.set_cons_zero, List.set_cons_succ, List.getElem_toArray, List.getElem_cons_succ, List.getElem_cons_zero]
            refine wpAnyH_take (i := 9) (v := undef) rfl (by kernel_rfl) (by kernel_rfl) (by kernel_rfl) (fun _ _ _ h => h) (Or.inr ⟨by rfl, rfl⟩) (by assumption) ?_
            try simp only [Act.put, List.setIfInBounds_toArray, List.set_cons_zero, List.set_cons_succ, List.getElem_toArray, List.getElem_cons_succ, List.getElem_cons_zero]
            refine wpAnyH_take (i := 10) (v := undef) rfl (by kernel_rfl) (by kernel_rfl) (by kernel_rfl) (fun _ _ _ h => h) (Or.inr ⟨by rfl, rfl⟩) (by assumption) ?_
            try simp only [Act.put, List.setIfInBounds_toArray, List.set_cons_zero, List.set_cons_succ, List.getElem_toArray, List.getElem_cons_succ, List.getElem_cons_zero]
            refine wpAnyH_take (i := 11) (v := undef) rfl (by kernel_rfl) (by kernel_rfl) (by kernel_rfl) (fun _ _ _ h => h) (Or.inr ⟨by rfl, rfl⟩) (by assumption) ?_
            try simp only [Act.put, List.setIfInBounds_toArray, List.set_cons_zero, List.set_cons_succ, List.getElem_toArray, List.getElem_cons_succ, List.getElem_cons_zero]
            refine wpAnyH_take (i := 12) (v := ?_) rfl (by kernel_rfl) (by kernel_rfl) (by kernel_rfl) (fun _ _ _ h => h) (Or.inl ⟨by rfl, ?_⟩) (by assumption) ?_
            rotate_left
            · intro w hSw; (try dsimp only at hSw); (try simp only [List.getElem_toArray, List.getElem_cons_succ, List.getElem_cons_zero]); go_simp; try with_reducible rfl
            try simp only [Act.put, List.setIfInBounds_toArray, List.set_cons_zero, List.set_cons_succ, List.getElem_toArray, List.getElem_cons_succ, List.getElem_cons_zero]
            refine wpAnyH_done (by kernel_rfl) ?_ _
            have hx := hid (Hp.out.then_ (Pure.then_ Hpd.out (hS2.out w7 (by assumption))))
            clear hp7 hst hS hS2
            go_wp2
            go_ret
            exact ⟨by rw [HE.out]; rfl, Hpz.out.then_ hx.out⟩
          | true =>
          obtain ⟨n0, n1⟩ := cbase_bds HokB.out (C.getD k (0, 0)).1
          have Hno := hid (fun (e : ¬ cbase B (C.getD k (0, 0)).1 + 1 < (C.getD k (0, 0)).2) => Hbad.out (.inr (.inr (.inr (allB_false hlt (show cat1 B C k = false from by unfold cat1; rw [decide_eq_false e]; simp))))))
          have Hyes := hid (fun (e : cbase B (C.getD k (0, 0)).1 + 1 < (C.getD k (0, 0)).2) => allB_next Hal.out (show cat1 B C k = true from by unfold cat1; rw [← hD, decide_eq_true e]; rfl))
          have hup2 := hid (fun W (hW : Pure wz W) => hup.out W (C.getD k (0, 0)).1 hW)
          clear hD
          generalize cbase B (C.getD k (0, 0)).1 = n at *
          generalize C.getD k (0, 0) = z at *
          obtain ⟨z1, z2⟩ := z
          dsimp only at x0 x1 hbd hWd hck2 hup2 Hno Hyes
          have hwn : IntKind.i64.wrap (n + 1) = n + 1 := IntWalk.i64_in _ (by omega)
          by_cases hq : n + 1 < z2
          · have hnle : ¬ z2 ≤ n + 1 := by omega
            have HN := hid (Hyes.out hq)
            clear Hno Hyes hq
            have hS : Hid (∀ W, Pure Wd W → (W.cell? ⟨w.heap.size, 0, none⟩ = some (.slice a0 B.length c0) ∧ W.cell? ⟨w.heap.size, 1, none⟩ = some (.slice (some ⟨b, off, none⟩) C.length c1) ∧ W.cell? ⟨wr.heap.size, 0, none⟩ = some (.int .i64 z1) ∧ W.cell? ⟨wr.heap.size, 1, none⟩ = some (.int .i64 z2) ∧ Pure Wd W)) := fun W hW => by
              have hwb := Pure.then_ hpd hW
              have ed := (hW.block _ (lt_of_block hbd)).trans hbd
              exact ⟨(hC.out W (hp.then_ hwb)).1, (hC.out W (hp.then_ hwb)).2, cell_of_block ed 0, cell_of_block ed 1, hW⟩
            have hst := hid (hS.out Wd.drew (Below.refl _ _).drew)
            have hS2 : Hid (∀ W : World, (W.cell? ⟨w.heap.size, 0, none⟩ = some (.slice a0 B.length c0) ∧ W.cell? ⟨w.heap.size, 1, none⟩ = some (.slice (some ⟨b, off, none⟩) C.length c1) ∧ W.cell? ⟨wr.heap.size, 0, none⟩ = some (.int .i64 z1) ∧ W.cell? ⟨wr.heap.size, 1, none⟩ = some (.int .i64 z2) ∧ Pure Wd W) → Pure Wd W) := fun W h => h.2.2.2.2
            have Hpd := hid hpd
            have Hpz2 := hid (fun W (hW : Pure Wd W) => (Hp.out.then_ hpd).then_ hW)
            clear hp hb hbd hpd
            go_wp2_with fail
            rw [← hWd]
            clear hWd
            first
            | go_region_held3 (fun W => W.cell? ⟨w.heap.size, 0, none⟩ = some (.slice a0 B.length c0) ∧ W.cell? ⟨w.heap.size, 1, none⟩ = some (.slice (some ⟨b, off, none⟩) C.length c1) ∧ W.cell? ⟨wr.heap.size, 0, none⟩ = some (.int .i64 z1) ∧ W.cell? ⟨wr.heap.size, 1, none⟩ = some (.int .i64 z2) ∧ Pure Wd W)
                (first | assumption | with_reducible exact hst.out | with_reducible exact hS.out _ (Pure.then_ (hS2.out _ (by assumption)) (by assumption)))
                ((first | (go_at_call 39; (with_reducible refine (hck2.out _).mono ?_); rintro e w7 ⟨rfl, hp7⟩) | (go_at_call 87; (with_reducible refine (hup2.out _ (Hpz2.out _ (hS2.out _ (by assumption)))).mono ?_); rintro e w8 ⟨rfl, hp8⟩)))
            | fail
            all_goals
              have hx := hid (Hpz2.out _ (hS2.out w8 (by assumption)))
              clear hp7 hp8 hst hS hS2
              go_wp2
              go_roundw
              (case rel => exact ⟨k + 1, by omega, by go_num, HN.out, hx.out⟩)
              (case measure => simp [RowKit.intOf]; omega)
          · have hnle : z2 ≤ n + 1 := by omega
            have HE := hid (Hno.out hq)
            clear Hno Hyes hq
            have hS : Hid (∀ W, Pure Wd W → (W.cell? ⟨w.heap.size, 0, none⟩ = some (.slice a0 B.length c0) ∧ W.cell? ⟨w.heap.size, 1, none⟩ = some (.slice (some ⟨b, off, none⟩) C.length c1) ∧ W.cell? ⟨wr.heap.size, 0, none⟩ = some (.int .i64 z1) ∧ W.cell? ⟨wr.heap.size, 1, none⟩ = some (.int .i64 z2) ∧ Pure Wd W)) := fun W hW => by
              have hwb := Pure.then_ hpd hW
              have ed := (hW.block _ (lt_of_block hbd)).trans hbd
              exact ⟨(hC.out W (hp.then_ hwb)).1, (hC.out W (hp.then_ hwb)).2, cell_of_block ed 0, cell_of_block ed 1, hW⟩
            have hst := hid (hS.out Wd.drew (Below.refl _ _).drew)
            have hS2 : Hid (∀ W : World, (W.cell? ⟨w.heap.size, 0, none⟩ = some (.slice a0 B.length c0) ∧ W.cell? ⟨w.heap.size, 1, none⟩ = some (.slice (some ⟨b, off, none⟩) C.length c1) ∧ W.cell? ⟨wr.heap.size, 0, none⟩ = some (.int .i64 z1) ∧ W.cell? ⟨wr.heap.size, 1, none⟩ = some (.int .i64 z2) ∧ Pure Wd W) → Pure Wd W) := fun W h => h.2.2.2.2
            have Hpd := hid hpd
            have Hpz2 := hid (fun W (hW : Pure Wd W) => (Hp.out.then_ hpd).then_ hW)
            clear hp hb hbd hpd
            go_wp2_with fail
            rw [← hWd]
            clear hWd
            first
            | go_region_held3 (fun W => W.cell? ⟨w.heap.size, 0, none⟩ = some (.slice a0 B.length c0) ∧ W.cell? ⟨w.heap.size, 1, none⟩ = some (.slice (some ⟨b, off, none⟩) C.length c1) ∧ W.cell? ⟨wr.heap.size, 0, none⟩ = some (.int .i64 z1) ∧ W.cell? ⟨wr.heap.size, 1, none⟩ = some (.int .i64 z2) ∧ Pure Wd W)
                (first | assumption | with_reducible exact hst.out | with_reducible exact hS.out _ (Pure.then_ (hS2.out _ (by assumption)) (by assumption)))
                ((first | (go_at_call 39; (with_reducible refine (hck2.out _).mono ?_); rintro e w7 ⟨rfl, hp7⟩) | (go_at_call 87; (with_reducible refine (hup2.out _ (Hpz2.out _ (hS2.out _ (by assumption)))).mono ?_); rintro e w8 ⟨rfl, hp8⟩)))
            | fail
            all_goals
              have hx := hid (Hpz2.out _ (hS2.out w8 (by assumption)))
              clear hp7 hp8 hst hS hS2
              go_wp2
              go_ret
              exact ⟨by rw [HE.out]; rfl, Hpz.out.then_ hx.out⟩
        · obtain rfl : k = C.length := by omega
          have hlt' : ¬ (C.length : Int) < (C.length : Int) := by omega
          have HE := hid (Hgood.out HrB.out HrC.out HalB.out Hal.out)
          clear hp
          go_wp2
          go_ret
          exact ⟨by rw [HE.out]; rfl, Hpz.out.then_ Hp.out⟩
end Go.Proofs.YtbcbmnifbflmaaaGreat

