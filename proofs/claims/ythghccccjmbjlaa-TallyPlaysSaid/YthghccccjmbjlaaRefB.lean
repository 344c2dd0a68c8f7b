import Derived.Test.YthghccccjmbjlaaRefA
namespace Go.Proofs.Ythghccccjmbjlaa
open Go.RowKit Go.Maps

theorem wpList_append_ints {ops : Array Oper} {rest : List Oper} {o : Oper} {a : Act} {Q : Exit → Act → World → Prop} {w : World} (hgd : o.guard = none) (s x : Operand)
    (ho : o.op = .call { callee := .builtin .append, args := #[s, x], argTypes := #[22, 22] }) (base : Nat) (v : Value) (xs : List Int) (hs : a.eval s = v)
    (hown : w.ownsRow base 3 1 v xs.length (xs.map (Value.int .i64))) (u : Value) (k : List Int) (hx : a.eval x = u) (hu : Ints w u k) (hlen : xs.length + k.length ≤ 1000000) (hbase : base ≤ w.heap.size)
    (h : ∀ v' w', w'.ownsRow base 3 1 v' (xs ++ k).length ((xs ++ k).map (Value.int .i64)) → w.grownBy w' v.ownBlock → wpList Try.prog ops Q rest (a.put o.dst v') w') : wpList Try.prog ops Q (o :: rest) a w := by
  obtain ⟨i0, hi, hz0, hz1, hz2⟩ := info_parts infoInt
  obtain ⟨ad, cap, rfl⟩ := hu.shape
  obtain ⟨_, h1, h2, hc⟩ := hu.cell
  have hm : (1 : Nat) ≤ 1 := Nat.le_refl _
  have fin : ∀ v' w', w'.ownsRow base 3 1 v' (xs.length + k.length) (xs.map (Value.int .i64) ++ k.map (Value.int .i64)) → w.grownBy w' v.ownBlock → wpList Try.prog ops Q rest (a.put o.dst v') w' := fun v' w' q1 q2 => h v' w' (by rw [List.length_append, List.map_append]; exact q1) q2
  cases ad with
  | none =>
    rcases hc with ⟨rfl, rfl⟩ | ⟨_, _, e, _⟩
    · exact wpList_append_own_none hgd s x _ ho base 3 i0 1 Try.underlying22 hi v _ _ hs hown hx (h v w (by simpa using hown) (World.grownBy.refl _ _))
    · cases e
  | some ad =>
    refine wpList_append_own _ hgd s x 22 ho base 3 i0 (.int .i64 0) 1 8 Try.underlying22 hi hz0 hz1 hz2 rfl (by decide) v _ _ hs hown ad k.length cap (k.map (Value.int .i64)) hx (by simp) (fun j u hj => ?_) (fun u hu => ?_) (by unfold maxLen; omega) (by omega) hbase (fun v' w' q1 q2 _ => fin v' w' q1 q2)
    · rcases hc with ⟨rfl, rfl⟩ | ⟨b, off, e, _, hcell⟩
      · simp at hj
      · cases e
        obtain ⟨hjk, rfl⟩ := List.getElem?_eq_some_iff.1 hj
        have hjk' : j < k.length := by simpa using hjk
        have := hcell j hjk'
        rw [Addr.add_lit, this]
        simp [List.getD, hjk']
    · simp at hu; obtain ⟨_, _, rfl⟩ := hu; rfl

theorem ints_pre {w : World} {b off n cap : Nat} {l : List Int} (h : Ints w (.slice (some ⟨b, off, none⟩) n cap) l) {k : Nat} (hk : k ≤ l.length) : Ints w (.slice (some ⟨b, off, none⟩) k cap) (l.take k) := by
  obtain ⟨rfl, h1, h2, hc⟩ := h.cell
  have e : (l.take k).length = k := by simp; omega
  refine ⟨by simp, _, cap, by rw [e], by omega, h2, ?_⟩
  rcases hc with ⟨h, hz⟩ | ⟨b', off', e', hb, hcell⟩
  · exact .inl hz
  · cases e'
    refine .inr ⟨b, off, rfl, hb, fun i hi => ?_⟩
    rw [e] at hi
    rw [hcell i (by omega)]
    simp [List.getD, show i < l.length by omega, show i < k by omega]
theorem ints_suf {w : World} {b off n cap : Nat} {l : List Int} (h : Ints w (.slice (some ⟨b, off, none⟩) n cap) l) {k : Nat} (hk : k ≤ l.length) : Ints w (.slice (some ⟨b, off + k, none⟩) (l.length - k) (cap - k)) (l.drop k) := by
  obtain ⟨rfl, h1, h2, hc⟩ := h.cell
  have e : (l.drop k).length = l.length - k := by simp
  refine ⟨by simp, _, _, by rw [e], by omega, by omega, ?_⟩
  rcases hc with ⟨h, hz⟩ | ⟨b', off', e', hb, hcell⟩
  · left; omega
  · cases e'
    refine .inr ⟨b, off + k, rfl, hb, fun i hi => ?_⟩
    rw [e] at hi
    rw [Nat.add_assoc, hcell (k + i) (by omega)]
    simp [List.getD, show k + i < l.length by omega]

theorem srt_sorted (l : List Int) : (srt l).Pairwise (fun x y => x ≤ y) := by
  have := List.pairwise_mergeSort (le := fun (x y : Int) => decide (x ≤ y)) (by intro a b c; simp; omega) (by intro a b; simp; omega) l
  exact this.imp (fun {a b} h => by simpa using h)
theorem srt_of {l : List Int} (h : l.Pairwise (fun x y => x ≤ y)) : srt l = l := by
  unfold srt; exact List.mergeSort_of_pairwise (h.imp (fun {a b} h => by simpa using h))
theorem ins_srt {y : List Int} {x : Int} {k : Nat} (h1 : ∀ z ∈ (srt y).drop k, x ≤ z) (h2 : ∀ z ∈ (srt y).take k, z ≤ x) : (srt y).take k ++ [x] ++ (srt y).drop k = srt (y ++ [x]) := by
  have hs := srt_sorted y
  have hp : (srt y).Perm y := List.mergeSort_perm _ _
  have hs2 : ((srt y).take k ++ [x] ++ (srt y).drop k).Pairwise (fun x y => x ≤ y) := by
    have h0 := hs
    rw [← List.take_append_drop k (srt y)] at h0
    obtain ⟨p1, p2, p3⟩ := List.pairwise_append.1 h0
    refine List.pairwise_append.2 ⟨List.pairwise_append.2 ⟨p1, by simp, fun a ha b hb => ?_⟩, p2, fun a ha b hb => ?_⟩
    · simp at hb; subst hb; exact h2 a ha
    · rcases List.mem_append.1 ha with ha | ha
      · exact p3 a ha b hb
      · simp at ha; subst ha; exact h1 b hb
  rw [← srt_of hs2]
  refine srt_perm ?_
  have : ((srt y).take k ++ [x] ++ (srt y).drop k).Perm ((srt y) ++ [x]) := by
    rw [List.append_assoc]
    refine (List.Perm.append_left _ List.perm_append_comm).trans ?_
    rw [← List.append_assoc, List.take_append_drop]
  exact this.trans (hp.append_right _)
theorem srt_none {l : List Int} {k : Nat} {x : Int} (hl : l.Pairwise (fun x y => x ≤ y)) (hk : k < l.length) (h : l.getD k 0 ≤ x) : ∀ z ∈ l.take (k + 1), z ≤ x := by
  intro z hz
  rw [take_succ_get l k hk, List.mem_append] at hz
  rcases hz with hz | hz
  · rw [← List.take_append_drop k l] at hl
    have := (List.pairwise_append.1 hl).2.2 z hz (l.getD k 0) (by rw [List.mem_drop_iff_getElem]; exact ⟨0, by omega, by simp [List.getD, hk]⟩)
    omega
  · simp only [List.mem_singleton] at hz; omega
theorem drop_step {l : List Int} {k : Nat} {x : Int} (hk : k < l.length) (h : ∀ z ∈ l.drop (k + 1), x ≤ z) (hx : x < l.getD k 0) : ∀ z ∈ l.drop k, x ≤ z := by
  intro z hz
  rw [List.drop_eq_getElem_cons hk] at hz
  rcases List.mem_cons.1 hz with rfl | hz
  · have e : l[k] = l.getD k 0 := by simp [List.getD, hk]
    rw [e]; omega
  · exact h z hz
end Go.Proofs.Ythghccccjmbjlaa
