/- Readers, in plain words: what is left of a row of bytes; none: it is torn. -/
import Derived.Test.YtdlpnhfgjficgaaGreatMNum
namespace Go.Proofs.YtdlpnhfgjficgaaGreat
open Go.RowKit Go.Maps

abbrev RS := Option (List UInt8)
/-- The digits of a number off the front: how many more may come; the number so far. -/
def rdg : Nat → Nat → List UInt8 → Option (Nat × List UInt8)
  | 0, _, _ => none
  | _ + 1, _, [] => none
  | f + 1, n, c :: r => if 18446744073709551616 ≤ n * 128 then none else if c.toNat < 128 then some (n * 128 + c.toNat, r) else rdg f (n * 128 + (c.toNat - 128)) r
def rnumL (l : List UInt8) : Option (Nat × List UInt8) := if l.head? = some 128 then none else rdg 10 0 l
def rdNum : RS → Nat × RS
  | none => (0, none)
  | some l => match rnumL l with
    | none => (0, none)
    | some (n, r) => (n, some r)
def rdInt (most : Int) (s : RS) : Int × RS :=
  match rdNum s with
  | (_, none) => (0, none)
  | (n, some r) => if most < 0 ∨ most < n then (0, none) else (n, some r)
def rdText (most : Int) (s : RS) : List UInt8 × RS :=
  match rdInt most s with
  | (_, none) => ([], none)
  | (n, some r) => if r.length < n.toNat then ([], none) else (r.take n.toNat, some (r.drop n.toNat))
theorem rdNum_none : rdNum none = (0, none) := rfl
theorem rdInt_bd (most : Int) (s : RS) : 0 ≤ (rdInt most s).1 ∧ (0 ≤ most → (rdInt most s).1 ≤ most) := by
  unfold rdInt
  split
  · exact ⟨Int.le_refl _, fun h => h⟩
  · split
    · exact ⟨Int.le_refl _, fun h => h⟩
    · rename_i n r _ h
      exact ⟨Int.natCast_nonneg n, fun _ => by show (n : Int) ≤ most; omega⟩
theorem rdNum_lt (s : RS) : (rdNum s).1 < 18446744073709551616 := by
  have key : ∀ (f n : Nat) (l : List UInt8) (m : Nat) (r : List UInt8), rdg f n l = some (m, r) → m < 18446744073709551616 := by
    intro f
    induction f with
    | zero => intro n l m r h; simp [rdg] at h
    | succ f ih =>
      intro n l m r h
      cases l with
      | nil => simp [rdg] at h
      | cons c l =>
        rw [rdg] at h
        split at h
        · cases h
        · split at h
          · simp only [Option.some.injEq, Prod.mk.injEq] at h
            have := c.toNat_lt
            omega
          · exact ih _ _ _ _ h
  unfold rdNum
  split
  · decide
  · rename_i l
    cases e : rnumL l with
    | none => simp
    | some p =>
      obtain ⟨n, r⟩ := p
      show n < _
      unfold rnumL at e
      split at e
      · cases e
      · exact key _ _ _ _ _ e

/-! ### what was written is read -/
theorem lt_nd (n : Nat) (h2 : n < 18446744073709551616) : n < 128 ^ nd n := by
  induction n using Nat.strongRecOn with
  | _ n ih =>
    by_cases h : n < 128
    · rw [nd_small h]; omega
    · have := ih (n / 128) (by omega) (by omega)
      rw [nd_big h h2, Nat.pow_succ]
      omega
theorem nd_top (n : Nat) (h : ¬ n < 128) (h2 : n < 18446744073709551616) : 128 ^ (nd n - 1) ≤ n := by
  induction n using Nat.strongRecOn with
  | _ n ih =>
    rw [nd_big h h2, Nat.add_sub_cancel]
    by_cases h' : n / 128 < 128
    · rw [nd_small h']; omega
    · have := ih (n / 128) (by omega) h' (by omega)
      have hp := nd_pos (n / 128)
      have e : nd (n / 128) = nd (n / 128) - 1 + 1 := by omega
      rw [e, Nat.pow_succ]
      omega
theorem rdg_hi (n : Nat) (h2 : n < 18446744073709551616) (r : List UInt8) (f : Nat) : ∀ j, rdg (j + 1 + f) (n / 128 ^ (j + 1)) (hi n j ++ (UInt8.ofNat (n % 128) :: r)) = some (n, r)
  | 0 => by
    have e : (UInt8.ofNat (n % 128)).toNat = n % 128 := by rw [UInt8.toNat_ofNat']; omega
    have e1 : 0 + 1 + f = f + 1 := by omega
    rw [e1, hi, List.nil_append, rdg, e, if_neg (by omega), if_pos (by omega)]
    simp only [Nat.zero_add, Nat.pow_one, Option.some.injEq, Prod.mk.injEq, and_true]
    omega
  | j + 1 => by
    have ih := rdg_hi n h2 r f j
    have hd := dg_lt n (j + 1)
    have e : (UInt8.ofNat (dg n (j + 1))).toNat = dg n (j + 1) := by rw [UInt8.toNat_ofNat']; omega
    have e1 : j + 1 + 1 + f = (j + 1 + f) + 1 := by omega
    have e2 : n / 128 ^ (j + 1 + 1) = n / 128 ^ (j + 1) / 128 := by rw [Nat.pow_succ, Nat.div_div_eq_div_mul]
    have e3 : n / 128 ^ (j + 1) ≤ n := Nat.div_le_self _ _
    have e4 : n / 128 ^ (j + 1) / 128 * 128 + (dg n (j + 1) - 128) = n / 128 ^ (j + 1) := by unfold dg; omega
    rw [e1, hi, List.cons_append, rdg, e, e2, if_neg (by omega), if_neg (by omega), e4]
    exact ih
theorem num_hi (n : Nat) (h2 : n < 18446744073709551616) : num n = hi n (nd n - 1) ++ [UInt8.ofNat (n % 128)] := by unfold num; rw [numAcc_hi n h2]
theorem num_head (n : Nat) (h2 : n < 18446744073709551616) (r : List UInt8) : (num n ++ r).head? ≠ some 128 := by
  rw [num_hi n h2]
  by_cases h : n < 128
  · rw [nd_small h, show 1 - 1 = 0 from rfl]
    have e : (UInt8.ofNat (n % 128)).toNat = n % 128 := by rw [UInt8.toNat_ofNat']; omega
    intro h3
    simp only [hi, List.nil_append, List.cons_append, List.head?_cons, Option.some.injEq] at h3
    rw [h3] at e
    have : (128 : UInt8).toNat = 128 := rfl
    omega
  · have h3 := nd_top n h h2
    have h4 := lt_nd n h2
    have hp : 2 ≤ nd n := by rw [nd_big h h2]; have := nd_pos (n / 128); omega
    obtain ⟨k, hk⟩ : ∃ k, nd n - 1 = k + 1 := ⟨nd n - 2, by omega⟩
    rw [hk] at h3 ⊢
    have hk2 : nd n = k + 1 + 1 := by omega
    rw [hk2] at h4
    rw [hi, List.cons_append, List.cons_append, List.head?_cons]
    intro h5
    have h6 := Option.some.inj h5
    have e : (UInt8.ofNat (dg n (k + 1))).toNat = dg n (k + 1) := by rw [UInt8.toNat_ofNat']; have := dg_lt n (k + 1); omega
    rw [h6] at e
    have e8 : (128 : UInt8).toNat = 128 := rfl
    have h7 : 1 ≤ n / 128 ^ (k + 1) := (Nat.le_div_iff_mul_le (Nat.pow_pos (by decide))).2 (by omega)
    have h8 : n / 128 ^ (k + 1) < 128 := by
      rw [Nat.div_lt_iff_lt_mul (Nat.pow_pos (by decide)), Nat.mul_comm, ← Nat.pow_succ]; exact h4
    unfold dg at e
    omega
theorem rnumL_num (n : Nat) (h2 : n < 18446744073709551616) (r : List UInt8) : rnumL (num n ++ r) = some (n, r) := by
  unfold rnumL
  rw [if_neg (num_head n h2 r), num_hi n h2, List.append_assoc]
  have hp := nd_pos n
  have hl := nd_le n h2
  have h := rdg_hi n h2 r (10 - nd n) (nd n - 1)
  have e1 : nd n - 1 + 1 = nd n := by omega
  have e2 : nd n + (10 - nd n) = 10 := by omega
  rw [e1, e2, Nat.div_eq_of_lt (lt_nd n h2)] at h
  exact h
theorem rdInt_num (most : Int) (n : Nat) (h : (n : Int) ≤ most) (h2 : n < 18446744073709551616) (r : List UInt8) : rdInt most (some (num n ++ r)) = ((n : Int), some r) := by
  have e : rdNum (some (num n ++ r)) = (n, some r) := by
    unfold rdNum
    dsimp only
    rw [rnumL_num n h2]
  unfold rdInt
  rw [e]
  dsimp only
  rw [if_neg (by omega)]
theorem rdText_text (most : Int) (s : List UInt8) (h : (s.length : Int) ≤ most) (h2 : s.length < 18446744073709551616) (r : List UInt8) : rdText most (some (textB s ++ r)) = (s, some r) := by
  unfold rdText textB
  rw [List.append_assoc, rdInt_num most s.length h h2]
  dsimp only
  rw [Int.toNat_natCast, if_neg (by rw [List.length_append]; omega), List.take_left' rfl, List.drop_left' rfl]

/-! ### the digits that were read, written: the beginning that is a number's bytes -/
def vl (p : List UInt8) : Nat := p.foldl (fun n c => n * 128 + (c.toNat - 128)) 0
theorem vl_snoc (p : List UInt8) (c : UInt8) : vl (p ++ [c]) = vl p * 128 + (c.toNat - 128) := by unfold vl; rw [List.foldl_append]; rfl
/-- Digits that go on, the first one not 0. -/
structure Dgs (p : List UInt8) : Prop where
  on : ∀ c ∈ p, 128 ≤ c.toNat
  first : p.head? ≠ some 128
theorem Dgs.pos : ∀ (n : Nat) {p : List UInt8}, p.length = n + 1 → Dgs p → 0 < vl p := by
  intro n
  induction n with
  | zero =>
    intro p hl h
    match p, hl with
    | [c], _ =>
      have h1 := h.on c (by simp)
      have h2 : c ≠ 128 := fun e => h.first (by rw [e]; rfl)
      have h3 : c.toNat ≠ 128 := fun e => h2 (UInt8.toNat_inj.1 e)
      show 0 < 0 * 128 + (c.toNat - 128)
      omega
  | succ n ih =>
    intro p hl h
    have hne : p ≠ [] := by intro e; rw [e] at hl; simp at hl
    have e := List.dropLast_concat_getLast hne
    rw [← e, vl_snoc]
    have h1 := ih (p := p.dropLast) (by simp; omega) ⟨fun c hc => h.on c ((List.dropLast_sublist p).subset hc), by
      intro h1
      apply h.first
      rw [← e, List.head?_append, h1]; rfl⟩
    omega
theorem Dgs.num : ∀ (n : Nat) {p : List UInt8}, p.length = n → Dgs p → ∀ (c : Nat), c < 128 → ∀ acc, numAcc (vl p * 128 + c) acc = p ++ acc := by
  intro n
  induction n with
  | zero =>
    intro p hl h c hc acc
    have := List.eq_nil_of_length_eq_zero hl
    subst this
    rw [numAcc_small (by show 0 * 128 + c < 128; omega)]; rfl
  | succ n ih =>
    intro p hl h c hc acc
    have hpos := Dgs.pos n hl h
    have hne : p ≠ [] := by intro e; rw [e] at hl; simp at hl
    have e := List.dropLast_concat_getLast hne
    have hb := h.on _ (List.getLast_mem hne)
    have hb2 := (p.getLast hne).toNat_lt
    rw [numAcc_big (by omega)]
    have e1 : (vl p * 128 + c) / 128 = vl p := by omega
    have e0 : vl p = vl p.dropLast * 128 + ((p.getLast hne).toNat - 128) := by rw [← vl_snoc, e]
    have e2 : vl p % 128 = (p.getLast hne).toNat - 128 := by omega
    have e3 : UInt8.ofNat (128 + vl p % 128) = p.getLast hne := by
      apply UInt8.toNat_inj.1
      rw [UInt8.toNat_ofNat']; omega
    rw [e1, e3, e0, ih (p := p.dropLast) (by simp; omega) ⟨fun c hc => h.on c ((List.dropLast_sublist p).subset hc), fun h1 => h.first (by rw [← e, List.head?_append, h1]; rfl)⟩ _ (by omega)]
    conv => rhs; rw [← e]
    rw [List.append_assoc]; rfl
theorem num_digits {p : List UInt8} (hon : ∀ c ∈ p, 128 ≤ c.toNat) {c : UInt8} (hc : c.toNat < 128) (h2 : vl p * 128 + c.toNat < 18446744073709551616) : (Go.Proofs.YtdlpnhfgjficgaaGreat.num (vl p * 128 + c.toNat) = p ++ [c]) ↔ (p ++ [c]).head? ≠ some 128 := by
  constructor
  · intro h h1
    have := num_head _ h2 []
    rw [List.append_nil, h] at this
    exact this h1
  · intro h
    unfold Go.Proofs.YtdlpnhfgjficgaaGreat.num
    have e : UInt8.ofNat ((vl p * 128 + c.toNat) % 128) = c := by
      apply UInt8.toNat_inj.1
      rw [UInt8.toNat_ofNat']; omega
    rw [e]
    exact Dgs.num p.length rfl ⟨hon, fun h1 => h (by rw [List.head?_append, h1]; rfl)⟩ _ hc _
/-! ### a step of the loop -/
/-- Behind i digits: n so far. -/
structure RdI (l : List UInt8) (i n : Nat) : Prop where
  le : i ≤ l.length
  le10 : i ≤ 10
  on : ∀ c ∈ l.take i, 128 ≤ c.toNat
  v : n = vl (l.take i)
  lt : n < 18446744073709551616
  r : rdg 10 0 l = rdg (10 - i) n (l.drop i)
theorem RdI.start (l : List UInt8) : RdI l 0 0 := ⟨Nat.zero_le _, by omega, by simp, rfl, by omega, by simp⟩
theorem take_succ_b (l : List UInt8) (k : Nat) (h : k < l.length) : l.take (k + 1) = l.take k ++ [l.getD k 0] := by
  rw [List.take_succ_eq_append_getElem h]; simp [List.getD, h]
theorem drop_b (l : List UInt8) (k : Nat) (h : k < l.length) : l.drop k = l.getD k 0 :: l.drop (k + 1) := by
  rw [List.drop_eq_getElem_cons h]; simp [List.getD, h]
theorem RdI.rdg {l : List UInt8} {i n : Nat} (h : RdI l i n) (hi : i < l.length) (h10 : i < 10) : Go.Proofs.YtdlpnhfgjficgaaGreat.rdg 10 0 l = if 18446744073709551616 ≤ n * 128 then none else if (l.getD i 0).toNat < 128 then some (n * 128 + (l.getD i 0).toNat, l.drop (i + 1)) else Go.Proofs.YtdlpnhfgjficgaaGreat.rdg (10 - (i + 1)) (n * 128 + ((l.getD i 0).toNat - 128)) (l.drop (i + 1)) := by
  rw [h.r, drop_b l i hi, show 10 - i = (10 - (i + 1)) + 1 by omega, Go.Proofs.YtdlpnhfgjficgaaGreat.rdg]
theorem RdI.end_ {l : List UInt8} {i n : Nat} (h : RdI l i n) (hi : ¬ (i < l.length ∧ i < 10)) : Go.Proofs.YtdlpnhfgjficgaaGreat.rdg 10 0 l = none := by
  rw [h.r]
  by_cases h1 : i < 10
  · have : l.drop i = [] := List.drop_eq_nil_of_le (by omega)
    rw [this, show 10 - i = (9 - i) + 1 by omega]; rfl
  · rw [show 10 - i = 0 by omega]; rfl
theorem RdI.over {l : List UInt8} {i n : Nat} (h : RdI l i n) (hi : i < l.length) (h10 : i < 10) (ho : 18446744073709551616 ≤ n * 128) : rdNum (some l) = (0, none) := by
  have : rnumL l = none := by unfold rnumL; rw [h.rdg hi h10, if_pos ho]; simp
  unfold rdNum; simp [this]
theorem RdI.stop {l : List UInt8} {i n : Nat} (h : RdI l i n) (hi : ¬ (i < l.length ∧ i < 10)) : rdNum (some l) = (0, none) := by
  have : rnumL l = none := by unfold rnumL; rw [h.end_ hi]; simp
  unfold rdNum; simp [this]
theorem head_take (l : List UInt8) (i : Nat) : (l.take (i + 1)).head? = l.head? := by cases l <;> rfl
theorem RdI.bad {l : List UInt8} (h : l.head? = some 128) : rdNum (some l) = (0, none) := by
  have : rnumL l = none := by unfold rnumL; rw [if_pos h]
  unfold rdNum; simp [this]
theorem RdI.hit {l : List UInt8} {i n : Nat} (h : RdI l i n) (hi : i < l.length) (h10 : i < 10) (ho : ¬ 18446744073709551616 ≤ n * 128) (hc : (l.getD i 0).toNat < 128) (hf : l.head? ≠ some 128) : rdNum (some l) = (n * 128 + (l.getD i 0).toNat, some (l.drop (i + 1))) := by
  have : rnumL l = some (n * 128 + (l.getD i 0).toNat, l.drop (i + 1)) := by unfold rnumL; rw [if_neg hf, h.rdg hi h10, if_neg ho, if_pos hc]
  unfold rdNum; simp [this]
theorem RdI.next {l : List UInt8} {i n : Nat} (h : RdI l i n) (hi : i < l.length) (h10 : i < 10) (ho : ¬ 18446744073709551616 ≤ n * 128) (hc : ¬ (l.getD i 0).toNat < 128) : RdI l (i + 1) (n * 128 + ((l.getD i 0).toNat - 128)) := by
  have hlt := (l.getD i 0).toNat_lt
  refine ⟨by omega, by omega, fun c hc' => ?_, ?_, by omega, ?_⟩
  · rw [take_succ_b l i hi, List.mem_append] at hc'
    rcases hc' with h1 | h1
    · exact h.on c h1
    · simp only [List.mem_singleton] at h1; subst h1; omega
  · rw [take_succ_b l i hi, vl_snoc, ← h.v]
  · rw [h.rdg hi h10, if_neg ho, if_neg hc]
/-- The document asks whether what was read is a number's bytes. -/
theorem RdI.asks {l : List UInt8} {i n : Nat} (h : RdI l i n) (hi : i < l.length) (ho : ¬ 18446744073709551616 ≤ n * 128) (hc : (l.getD i 0).toNat < 128) : Go.Proofs.YtdlpnhfgjficgaaGreat.num (n * 128 + (l.getD i 0).toNat) = l.take (i + 1) ↔ l.head? ≠ some 128 := by
  have h2 : vl (l.take i) * 128 + (l.getD i 0).toNat < 18446744073709551616 := by rw [← h.v]; omega
  have := num_digits h.on hc h2
  rw [← h.v, ← take_succ_b l i hi, head_take] at this
  exact this
end Go.Proofs.YtdlpnhfgjficgaaGreat
