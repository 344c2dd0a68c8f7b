/- law10: views that may be: put in order; made. -/
import Derived.Test.YtlamhobkmknnpaaTk
namespace Go.Proofs.Ytlamhobkmknnpaa
open Go.RowKit Go.Maps Go.MapKept

def SortedP (l : List Pr) : Prop := l.Pairwise fun a b => a.id < b.id
def ins : List Pr → Pr → List Pr
  | [], p => [p]
  | q :: l, p => if q.id = p.id then later q p :: l else if p.id < q.id then p :: q :: l else q :: ins l p
theorem fold_done (p : Pr) : ∀ (l o : List Pr), (∀ q ∈ l, p.id < q.id) → l.foldl (pstep p) (o, true) = (o ++ l, true)
  | [], o, _ => by simp
  | q :: l, o, h => by
    have hq := h q (by simp)
    have e : pstep p (o, true) q = (o ++ [q], true) := by unfold pstep; rw [if_neg (by omega)]; simp
    rw [List.foldl_cons, e, fold_done p l _ (fun x hx => h x (List.mem_cons_of_mem _ hx))]
    simp
theorem fold_go (p : Pr) : ∀ (l o : List Pr), SortedP l → (if (l.foldl (pstep p) (o, false)).2 then (l.foldl (pstep p) (o, false)).1 else (l.foldl (pstep p) (o, false)).1 ++ [p]) = o ++ ins l p
  | [], o, _ => by simp [ins]
  | q :: l, o, h => by
    obtain ⟨h1, h2⟩ := List.pairwise_cons.1 h
    rw [List.foldl_cons]
    by_cases he : q.id = p.id
    · have e : pstep p (o, false) q = (o ++ [later q p], true) := by unfold pstep; rw [if_pos he]
      rw [e, fold_done p l _ (fun x hx => by have := h1 x hx; omega)]
      simp [ins, he]
    · by_cases hl : p.id < q.id
      · have e : pstep p (o, false) q = (o ++ [p, q], true) := by unfold pstep; rw [if_neg he, if_pos ⟨rfl, hl⟩]
        rw [e, fold_done p l _ (fun x hx => by have := h1 x hx; omega)]
        simp [ins, he, hl]
      · have e : pstep p (o, false) q = (o ++ [q], false) := by unfold pstep; rw [if_neg he, if_neg (fun h => hl h.2)]
        rw [e, fold_go p l _ h2]
        simp [ins, he, hl]
theorem pput_ins {l : List Pr} (h : SortedP l) (p : Pr) : pput l p = ins l p := by
  have := fold_go p l [] h
  rw [List.nil_append] at this
  exact this
theorem later_or (a b : Pr) : later a b = a ∨ later a b = b := by
  unfold later
  repeat' split
  all_goals simp
theorem ins_mem {l : List Pr} {p x : Pr} (h : x ∈ ins l p) : x ∈ l ∨ x = p := by
  induction l with
  | nil => simp [ins] at h; exact .inr h
  | cons q l ih =>
    unfold ins at h
    split at h
    · rcases List.mem_cons.1 h with h | h
      · rcases later_or q p with e | e
        · exact .inl (by rw [h, e]; simp)
        · exact .inr (by rw [h, e])
      · exact .inl (List.mem_cons_of_mem _ h)
    · split at h
      · rcases List.mem_cons.1 h with h | h
        · exact .inr h
        · exact .inl h
      · rcases List.mem_cons.1 h with h | h
        · exact .inl (by rw [h]; simp)
        · rcases ih h with h | h
          · exact .inl (List.mem_cons_of_mem _ h)
          · exact .inr h
theorem later_id {a b : Pr} (h : a.id = b.id) : (later a b).id = a.id := by
  rcases later_or a b with e | e
  · rw [e]
  · rw [e, h]
theorem ins_sorted {l : List Pr} (h : SortedP l) (p : Pr) : SortedP (ins l p) := by
  induction l with
  | nil => simp [ins, SortedP]
  | cons q l ih =>
    obtain ⟨h1, h2⟩ := List.pairwise_cons.1 h
    unfold ins
    split
    · rename_i he
      exact List.pairwise_cons.2 ⟨fun x hx => by rw [later_id he]; exact h1 x hx, h2⟩
    · split
      · rename_i hl
        refine List.pairwise_cons.2 ⟨fun x hx => ?_, h⟩
        rcases List.mem_cons.1 hx with rfl | hx
        · exact hl
        · have := h1 x hx; omega
      · rename_i he hl
        refine List.pairwise_cons.2 ⟨fun x hx => ?_, ih h2⟩
        rcases ins_mem hx with hx | rfl
        · exact h1 x hx
        · omega
theorem ins_find {l : List Pr} (h : SortedP l) (p : Pr) : pfind (ins l p) p.id = some (match pfind l p.id with | some a => later a p | none => p) := by
  induction l with
  | nil => simp [ins, pfind]
  | cons q l ih =>
    obtain ⟨h1, h2⟩ := List.pairwise_cons.1 h
    have ih := ih h2
    unfold pfind at ih ⊢
    unfold ins
    split
    · rename_i he
      have e1 : ((later q p).id == p.id) = true := by rw [later_id he]; simpa using he
      have e2 : (q.id == p.id) = true := by simpa using he
      simp only [List.find?_cons, e1, e2]
    · rename_i he
      split
      · rename_i hl
        have e1 : (p.id == p.id) = true := by simp
        have e2 : (q.id == p.id) = false := by simpa using he
        have e3 : l.find? (fun x => x.id == p.id) = none := List.find?_eq_none.2 (fun x hx => by have := h1 x hx; simp; omega)
        simp only [List.find?_cons, e1, e2, e3]
      · have e2 : (q.id == p.id) = false := by simpa using he
        simp only [List.find?_cons, e2, ih]
theorem sorted_len : ∀ {l : List Pr} {lo : Int}, SortedP l → (∀ p ∈ l, lo ≤ p.id ∧ p.id ≤ 8) → (l.length : Int) ≤ max 0 (9 - lo)
  | [], lo, _, _ => by simp; omega
  | q :: l, lo, h, hb => by
    obtain ⟨h1, h2⟩ := List.pairwise_cons.1 h
    have hq := hb q (by simp)
    have ih := sorted_len (lo := q.id + 1) h2 (fun p hp => by have := h1 p hp; have := hb p (List.mem_cons_of_mem _ hp); omega)
    rw [List.length_cons]; omega
/-- What may be, here. -/
structure VOk (l : List Pr) : Prop where
  sorted : SortedP l
  all : ∀ p ∈ l, 1 ≤ p.id ∧ p.id ≤ 8 ∧ 0 ≤ p.inc ∧ p.inc ≤ 9 ∧ 0 ≤ p.st ∧ p.st ≤ 1
theorem VOk.nil : VOk [] := ⟨List.Pairwise.nil, by simp⟩
theorem VOk.put {l : List Pr} (h : VOk l) {p : Pr} (hp : 1 ≤ p.id ∧ p.id ≤ 8 ∧ 0 ≤ p.inc ∧ p.inc ≤ 9 ∧ 0 ≤ p.st ∧ p.st ≤ 1) : VOk (pput l p) := by
  rw [pput_ins h.sorted]
  refine ⟨ins_sorted h.sorted p, fun x hx => ?_⟩
  rcases ins_mem hx with hx | rfl
  · exact h.all x hx
  · exact hp
theorem VOk.len {l : List Pr} (h : VOk l) : l.length ≤ 8 := by
  have := sorted_len (lo := 1) h.sorted (fun p hp => by have := h.all p hp; omega)
  omega
theorem VOk.find {l : List Pr} (h : VOk l) (p : Pr) : pfind (pput l p) p.id = some (match pfind l p.id with | some a => later a p | none => p) := by rw [pput_ins h.sorted]; exact ins_find h.sorted p
def mk1 (q : Pr) : Pr := ⟨1 + bits .and .i64 q.id 7, bits .and .i64 q.inc 7, bits .and .i64 q.st 1⟩
theorem and7 (n : Int) : 0 ≤ bits .and .i64 n 7 ∧ bits .and .i64 n 7 ≤ 7 := by
  show 0 ≤ IntKind.i64.wrap ((BitVec.ofInt 64 n &&& BitVec.ofInt 64 7).toNat : Int) ∧ IntKind.i64.wrap ((BitVec.ofInt 64 n &&& BitVec.ofInt 64 7).toNat : Int) ≤ 7
  have hx : (BitVec.ofInt 64 n &&& BitVec.ofInt 64 7).toNat ≤ 7 := by
    rw [BitVec.toNat_and]
    exact Nat.le_trans Nat.and_le_right (by decide)
  rw [IntWalk.i64_in _ (by omega)]
  omega
theorem and1 (n : Int) : 0 ≤ bits .and .i64 n 1 ∧ bits .and .i64 n 1 ≤ 1 := by
  show 0 ≤ IntKind.i64.wrap ((BitVec.ofInt 64 n &&& BitVec.ofInt 64 1).toNat : Int) ∧ IntKind.i64.wrap ((BitVec.ofInt 64 n &&& BitVec.ofInt 64 1).toNat : Int) ≤ 1
  have hx : (BitVec.ofInt 64 n &&& BitVec.ofInt 64 1).toNat ≤ 1 := by
    rw [BitVec.toNat_and]
    exact Nat.le_trans Nat.and_le_right (by decide)
  rw [IntWalk.i64_in _ (by omega)]
  omega
theorem mk1_ok (q : Pr) : 1 ≤ (mk1 q).id ∧ (mk1 q).id ≤ 8 ∧ 0 ≤ (mk1 q).inc ∧ (mk1 q).inc ≤ 9 ∧ 0 ≤ (mk1 q).st ∧ (mk1 q).st ≤ 1 := by
  have h1 := and7 q.id
  have h2 := and7 q.inc
  have h3 := and1 q.st
  unfold mk1; dsimp only; omega

def MadeP (w : World) (e : Ending) (w' : World) : Prop := ∃ v' M, e = .returned v' ∧ Peers w' v' M ∧ VOk M ∧ Pure w w'
set_option maxRecDepth 8000 in
set_option maxHeartbeats 4000000 in
theorem made_any (v : Value) (l : List Pr) (w : World) (hr : Peers w v l) :
    Calls Try.prog 10 #[v] w (MadeP w) := by
  obtain ⟨a, cap, rfl⟩ := hr.shape
  have hll : l.length ≤ maxLen := Row.len_le hr
  unfold maxLen at hll
  have Hr := hid hr
  clear hr
  go_enter Try.func10, Try.ntmps10
  go_wp2
  go_loopw [3, 4] (fun o i wr => ∃ (k : Nat) (M : List Pr), k ≤ l.length ∧ k ≤ 12 ∧ i = .int .i64 k ∧ Peers wr o M ∧ VOk M ∧ Pure w wr) (fun _ i _ => l.length - (RowKit.intOf i).toNat)
  case atStart => exact ⟨0, [], Nat.zero_le _, by omega, rfl, Row.nil _ _, VOk.nil, Below.refl _ _⟩
  case round =>
    obtain ⟨k, M, hk, hk12, rfl, hPe, hV, hp⟩ := hrel
    obtain ⟨am, cm, rfl⟩ := hPe.shape
    have HPe := hid hPe
    have HV := hid hV
    have Hp := hid hp
    clear hPe hV hp
    by_cases hlt : k < l.length ∧ k < 12
    · obtain ⟨l1, l2⟩ := hlt
      have l1' : (k : Int) < (l.length : Int) := by omega
      have l2' : (k : Int) < 12 := by omega
      have hk0 : (0 : Int) ≤ (k : Int) := by omega
      obtain ⟨b, off, rfl, hb, c0, c1, c2⟩ := Peers.get (show Peers wr (.slice a l.length cap) l from Row.pure Hr.out Hp.out) l1
      generalize l.getD k p0 = z at *
      obtain ⟨zi, zn, zs⟩ := z
      dsimp only at c0 c1 c2
      obtain ⟨ai, hai⟩ : ∃ x, bits .and .i64 zi 7 = x := ⟨_, rfl⟩
      obtain ⟨bi, hbi⟩ : ∃ x, bits .and .i64 zn 7 = x := ⟨_, rfl⟩
      obtain ⟨ci, hci⟩ : ∃ x, bits .and .i64 zs 1 = x := ⟨_, rfl⟩
      have b1 : 0 ≤ ai ∧ ai ≤ 7 := by rw [← hai]; exact and7 zi
      have b2 : 0 ≤ bi ∧ bi ≤ 7 := by rw [← hbi]; exact and7 zn
      have b3 : 0 ≤ ci ∧ ci ≤ 1 := by rw [← hci]; exact and1 zs
      have hVp := HV.out.put (p := ⟨1 + ai, bi, ci⟩) (by dsimp only; omega)
      have HVp := hid hVp
      have hPL : Pure wr (wr.alloc (.cells #[.int .i64 (1 + ai), .int .i64 bi, .int .i64 ci] 28)).drew := ((Below.refl _ _).alloc (Nat.le_refl _) _).drew
      have hjo := hid (join1_any (.slice am M.length cm) (.slice (some ⟨wr.heap.size, 0, none⟩) 1 1) M ⟨1 + ai, bi, ci⟩ (wr.alloc (.cells #[.int .i64 (1 + ai), .int .i64 bi, .int .i64 ci] 28)).drew (Row.pure HPe.out hPL) (Row.pure (peer_row wr ⟨1 + ai, bi, ci⟩) (Below.refl _ _).drew) (by have := HV.out.len; omega) (by have := hVp.len; omega))
      have HPL := hid hPL
      clear hVp hPL
      have hw1 : IntKind.i64.wrap (1 + ai) = 1 + ai := IntWalk.i64_in _ (by omega)
      go_wp2_with fail
      go_region_with (go_at_call 24; (with_reducible refine hjo.out.mono ?_); rintro e w7 ⟨v7, rfl, hP7, hp7⟩)
      all_goals
        have HP7 := hid hP7
        have Hp7 := hid (Hp.out.then_ (HPL.out.then_ hp7))
        clear hP7 hp7 hw1
        go_wp2
        go_roundw
        (case rel => exact ⟨k + 1, _, by omega, by omega, by go_num, HP7.out, HVp.out, Hp7.out⟩)
        (case measure => simp [RowKit.intOf]; omega)
    · by_cases l1 : k < l.length
      · have l1' : (k : Int) < (l.length : Int) := by omega
        have l2' : ¬ (k : Int) < 12 := by omega
        go_wp2
        go_ret
        exact ⟨_, M, rfl, HPe.out, HV.out, Hp.out⟩
      · have l1' : ¬ (k : Int) < (l.length : Int) := by omega
        go_wp2
        go_ret
        exact ⟨_, M, rfl, HPe.out, HV.out, Hp.out⟩
end Go.Proofs.Ytlamhobkmknnpaa
