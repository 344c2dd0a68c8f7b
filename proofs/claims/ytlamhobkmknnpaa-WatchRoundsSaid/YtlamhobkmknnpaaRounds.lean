/- law10: WatchRounds, the plain law. -/
import Derived.Test.YtlamhobkmknnpaaWatchN
namespace Go.Proofs.Ytlamhobkmknnpaa
open Go.RowKit Go.Maps Go.MapKept

/-- The others' numbers; the view. -/
def rO (k : Nat) : List Int := (List.range k).map fun i : Nat => 2 + (i : Int)
def rL (k : Nat) : List Pr := ⟨1, 0, 0⟩ :: (List.range k).map fun i : Nat => ⟨2 + (i : Int), 0, 0⟩
theorem rO_len (k : Nat) : (rO k).length = k := by simp [rO]
theorem rL_len (k : Nat) : (rL k).length = k + 1 := by simp [rL]
theorem rO_mem (k : Nat) (x : Int) : x ∈ rO k ↔ 2 ≤ x ∧ x < 2 + k := by
  unfold rO
  rw [List.mem_map]
  constructor
  · rintro ⟨i, hi, rfl⟩
    have := List.mem_range.1 hi; omega
  · intro h
    exact ⟨(x - 2).toNat, List.mem_range.2 (by omega), by omega⟩
theorem rO_nodup (k : Nat) : (rO k).Nodup := by
  unfold rO
  rw [List.nodup_iff_pairwise_ne, List.pairwise_map]
  exact (List.nodup_iff_pairwise_ne.1 List.nodup_range).imp (fun {a b} h e => h (by omega))
theorem rL_mem (k : Nat) : mem (rL k) = 1 :: rO k := by
  have h : ∀ l : List Nat, ((l.map fun i : Nat => (⟨2 + (i : Int), 0, 0⟩ : Pr)).filter fun p => decide (p.st ≠ 2)).map (·.id) = l.map fun i : Nat => 2 + (i : Int) := by
    intro l
    induction l with
    | nil => rfl
    | cons a l ih => simp at ih ⊢; exact ih
  unfold mem rL rO
  rw [List.filter_cons_of_pos (by decide), List.map_cons, h]
theorem rL_others (k : Nat) : others (rL k) 1 = rO k := by
  unfold others
  rw [rL_mem, List.filter_cons_of_neg (by decide), List.filter_eq_self.2]
  intro x hx
  have := (rO_mem k x).1 hx
  simp; omega
theorem rL_ref (k : Nat) : chg (rL k) 1 ref1 = rL k := by simp [rL, chg, ref1]
theorem rL_ok (k : Nat) (hk : k ≤ 8) : POk (rL k) := by
  intro p hp
  rcases List.mem_cons.1 hp with rfl | hp
  · simp
  · obtain ⟨i, hi, rfl⟩ := List.mem_map.1 hp
    have := List.mem_range.1 hi
    simp; omega
theorem rL_snoc (k : Nat) : rL (k + 1) = rL k ++ [⟨2 + (k : Int), 0, 0⟩] := by simp [rL, List.range_succ]
def rS (cb i : Int) (W : List (Int × Int)) (R : List Int) : WS := ⟨1, 1, 5, cb, i, W, R⟩
/-- The round that is used. -/
def rUse (k : Nat) (R : List Int) (draw : Int) : List Int := if R = [] then rot (rO k) draw else R
theorem rot_perm (l : List Int) (d : Int) : (rot l d).Perm l := by
  unfold rot
  exact List.perm_append_comm.trans (by rw [List.take_append_drop])
theorem rTick (k : Nat) (cb i draw : Int) (R : List Int) (hc : cb ≤ i) (hR : ∀ x ∈ R, x ∈ rO k) (hk : 1 ≤ k) {ask : Int} {rest : List Int} (hu : rUse k R draw = ask :: rest) :
    tick (rS cb i [] R) (rL k) i draw = ((ask, true, rL k), rS i (i + 1) [(ask, i)] rest) := by
  have hm : max cb i = i := by omega
  have hL : tickL (rS cb i [] R) (rL k) i = (rL k, []) := by simp [tickL, rS, lateL, srt_nil]
  have hN : tickN (rS cb i [] R) (rL k) i = rL k := by unfold tickN; rw [hL]; exact rL_ref k
  have hT : tickR (rS cb i [] R) (rL k) i draw = ask :: rest := by
    unfold tickR againL
    rw [hN]
    show (if (R.filter fun x => decide (x ∈ others (rL k) 1)) ≠ [] ∨ others (rL k) 1 = [] then R.filter fun x => decide (x ∈ others (rL k) 1) else rot (others (rL k) 1) draw) = ask :: rest
    rw [rL_others]
    have hf : (R.filter fun x => decide (x ∈ rO k)) = R := List.filter_eq_self.2 (fun x hx => by simpa using hR x hx)
    rw [hf, ← hu]
    have hO : rO k ≠ [] := fun e => by have := rO_len k; rw [e] at this; simp at this; omega
    unfold rUse
    by_cases h : R = []
    · rw [if_pos h, if_neg (by simp [h, hO])]
    · rw [if_neg h, if_pos (.inl h)]
  unfold tick
  have hd : ¬ (max (rS cb i [] R).clock i < (rS cb i [] R).due) := by show ¬ max cb i < i; omega
  rw [if_neg hd, hT, hN]
  show ((ask, true, rL k), ({ tick2 (rS cb i [] R) (rL k) i with round := rest, waits := tickW (rS cb i [] R) (rL k) i ask } : WS)) = _
  have hW : tickW (rS cb i [] R) (rL k) i ask = [(ask, i)] := by
    unfold tickW; rw [hL]
    show (if (mlook ([] : List (Int × Int)) ask).isSome then _ else mput ([] : List (Int × Int)) ask (max cb i)) = _
    rw [hm]; simp [mlook, mput]
  rw [hW]
  simp [tick2, tick1, rS, hm]
theorem rHeard (cb i ask : Int) (R : List Int) : (rS cb i [(ask, i - 1)] R).heard ask = rS cb i [] R ∧ (mlook (rS cb i [(ask, i - 1)] R).waits ask).isSome = true := by
  simp [rS, WS.heard, mdel, mlook]

/-- How far a round is: whom it has asked, who is left, how often each was asked. -/
structure RI (k i : Nat) (A R : List Int) (cnt : Int → Int) : Prop where
  st : (A = [] ∧ R = [] ∧ i % k = 0) ∨ ((A ++ R).Perm (rO k) ∧ A.length = i % k ∧ R ≠ [])
  cnt : ∀ j, 2 ≤ j → j < 2 + (k : Int) → cnt j = ((i / k : Nat) : Int) + if j ∈ A then 1 else 0
theorem RI.start (k : Nat) : RI k 0 [] [] (fun _ => 0) := ⟨.inl ⟨rfl, rfl, Nat.zero_mod k⟩, fun j _ _ => by simp⟩
theorem RI.sub {k i : Nat} {A R : List Int} {cnt : Int → Int} (h : RI k i A R cnt) : ∀ x ∈ R, x ∈ rO k := by
  rcases h.st with ⟨_, rfl, _⟩ | ⟨hp, _, _⟩
  · simp
  · intro x hx; exact hp.mem_iff.1 (List.mem_append.2 (.inr hx))
theorem RI.use {k i : Nat} {A R : List Int} {cnt : Int → Int} (h : RI k i A R cnt) (hk : 1 ≤ k) (draw : Int) : ∃ ask rest, rUse k R draw = ask :: rest ∧ (A ++ ask :: rest).Perm (rO k) ∧ A.length = i % k := by
  rcases h.st with ⟨rfl, rfl, hz⟩ | ⟨hp, hl, hne⟩
  · have hr : rUse k [] draw = rot (rO k) draw := by simp [rUse]
    have hpm := rot_perm (rO k) draw
    cases he : rot (rO k) draw with
    | nil => rw [he] at hpm; have := hpm.length_eq; rw [rO_len] at this; simp at this; omega
    | cons a r => exact ⟨a, r, by rw [hr, he], by rw [he] at hpm; exact hpm, by simp [hz]⟩
  · cases R with
    | nil => exact absurd rfl hne
    | cons a r => exact ⟨a, r, by simp [rUse], hp, hl⟩
theorem RI.next {k i : Nat} {A R : List Int} {cnt : Int → Int} (h : RI k i A R cnt) (hk : 1 ≤ k) {ask : Int} {rest : List Int} (hp : (A ++ ask :: rest).Perm (rO k)) (hl : A.length = i % k) :
    ∃ A', RI k (i + 1) A' rest (fun j => if j = ask then cnt j + 1 else cnt j) ∧ ((i + 1) % k = 0 → ∀ j, 2 ≤ j → j < 2 + (k : Int) → (if j = ask then cnt j + 1 else cnt j) = (((i + 1) / k : Nat) : Int)) := by
  have hlen := hp.length_eq
  rw [rO_len, List.length_append, List.length_cons] at hlen
  have hnd : (A ++ ask :: rest).Nodup := hp.nodup_iff.2 (rO_nodup k)
  have hna : ask ∉ A := fun hx => (List.nodup_append.1 hnd).2.2 ask hx ask (by simp) rfl
  have hc : ∀ j, 2 ≤ j → j < 2 + (k : Int) → (if j = ask then cnt j + 1 else cnt j) = ((i / k : Nat) : Int) + if j ∈ A ++ [ask] then 1 else 0 := by
    intro j h1 h2
    rw [h.cnt j h1 h2]
    by_cases hj : j = ask
    · subst hj; simp [hna]
    · simp [hj]
  have hlt := Nat.mod_lt i (show 0 < k by omega)
  have hdm := Nat.div_add_mod i k
  by_cases hz : (i + 1) % k = 0
  · have hAl : A.length + 1 = k := by
      rcases Nat.lt_or_ge (i % k + 1) k with hlt2 | hge
      · have : (i + 1) % k = i % k + 1 := by rw [Nat.add_mod, Nat.mod_eq_of_lt (a := 1) (by omega), Nat.mod_eq_of_lt hlt2]
        omega
      · omega
    have hre : rest = [] := List.eq_nil_of_length_eq_zero (by omega)
    subst hre
    have hq : (i + 1) / k = i / k + 1 := by
      have h1 : i + 1 = k * (i / k + 1) := by rw [Nat.mul_add, Nat.mul_one]; omega
      rw [h1, Nat.mul_div_cancel_left _ (by omega)]
    have hall : ∀ j, 2 ≤ j → j < 2 + (k : Int) → (if j = ask then cnt j + 1 else cnt j) = (((i + 1) / k : Nat) : Int) := by
      intro j h1 h2
      rw [hc j h1 h2, hq]
      have : j ∈ A ++ [ask] := hp.mem_iff.2 ((rO_mem k j).2 ⟨h1, h2⟩)
      rw [if_pos this]; omega
    exact ⟨[], ⟨.inl ⟨rfl, rfl, hz⟩, fun j h1 h2 => by rw [hall j h1 h2]; simp⟩, fun _ => hall⟩
  · have hlt2 : i % k + 1 < k := by
      rcases Nat.lt_or_ge (i % k + 1) k with h1 | h1
      · exact h1
      · have h2 : i + 1 = k * (i / k + 1) := by rw [Nat.mul_add, Nat.mul_one]; omega
        rw [h2, Nat.mul_mod_right] at hz
        exact absurd rfl hz
    have hm1 : (i + 1) % k = i % k + 1 := by rw [Nat.add_mod, Nat.mod_eq_of_lt (a := 1) (by omega), Nat.mod_eq_of_lt hlt2]
    have hq : (i + 1) / k = i / k := by
      have h3 := Nat.div_add_mod (i + 1) k
      have h4 : k * ((i + 1) / k) = k * (i / k) := by omega
      exact Nat.eq_of_mul_eq_mul_left (by omega) h4
    refine ⟨A ++ [ask], ⟨.inr ⟨by simpa using hp, by simp; omega, fun e => by subst e; simp at hlen; omega⟩, fun j h1 h2 => by rw [hc j h1 h2, hq]⟩, fun h0 => absurd h0 hz⟩
def cntA (cnt : Int → Int) : Array Value := ((List.range 12).map fun j : Nat => Value.int .i64 (cnt j)).toArray
theorem cntA_get (cnt : Int → Int) (j : Nat) (h : j < 12) : (cntA cnt)[j]? = some (.int .i64 (cnt j)) := by
  unfold cntA
  rw [List.getElem?_toArray, List.getElem?_map, List.getElem?_range h]; rfl
theorem cntA_set (cnt : Int → Int) (x : Nat) (h : x < 12) : (cntA cnt).setIfInBounds x (.int .i64 (cnt x + 1)) = cntA (fun j => if j = (x : Int) then cnt j + 1 else cnt j) := by
  unfold cntA
  rw [List.setIfInBounds_toArray]
  congr 1
  apply List.ext_getElem?
  intro i
  rw [List.getElem?_set, List.getElem?_map, List.getElem?_map, List.length_map, List.length_range]
  by_cases hi : x = i
  · subst hi
    rw [if_pos rfl, if_pos h, List.getElem?_range h]; simp
  · rw [if_neg hi]
    by_cases h2 : i < 12
    · rw [List.getElem?_range h2]
      have : ¬ ((i : Int) = (x : Int)) := by omega
      simp [this]
    · rw [List.getElem?_eq_none (by simp; omega)]; rfl
theorem RI.len {k i : Nat} {A R : List Int} {cnt : Int → Int} (h : RI k i A R cnt) : R.length ≤ k := by
  rcases h.st with ⟨_, rfl, _⟩ | ⟨hp, _, _⟩
  · simp
  · have := hp.length_eq; rw [rO_len, List.length_append] at this; omega
theorem rS_ok (k i : Nat) (cb : Int) {A R : List Int} {cnt : Int → Int} (h : RI k i A R cnt) (hk : k ≤ 8) (hc : 0 ≤ cb ∧ cb ≤ 1000) : WOk 10 (rS cb i [] R) :=
  ⟨by simp [rS], by simp [rS], by simp [rS], by show 0 ≤ cb ∧ cb ≤ 1000000; omega, by simp [rS], by simp [rS], by simp [rS], fun x hx => by have := (rO_mem k x).1 (h.sub x hx); omega, by have := h.len; show R.length ≤ 1000; omega⟩
theorem RI.cnt_bd {k i : Nat} {A R : List Int} {cnt : Int → Int} (h : RI k i A R cnt) (hi : i ≤ 20) {x : Int} (h1 : 2 ≤ x) (h2 : x < 2 + (k : Int)) : 0 ≤ cnt x ∧ cnt x ≤ 30 := by
  rw [h.cnt x h1 h2]
  have : i / k ≤ i := Nat.div_le_self _ _
  generalize i / k = q at *
  split <;> omega
end Go.Proofs.Ytlamhobkmknnpaa
