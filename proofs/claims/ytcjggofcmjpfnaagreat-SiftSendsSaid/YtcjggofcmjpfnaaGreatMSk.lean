/- Maps by keys of any type that has a law. No program is named here. slices.IndexFunc and slices.DeleteFunc at []int, of an owned row, with any predicate that writes nothing that was there. sift: Lacks. ref02's SameTexts; ref06's Marks. ref06's Lacks and Differ. Texts in a row of the call's own, or in the tail of one; append on it. -/
import Derived.Test.YtcjggofcmjpfnaaGreatBase
import Derived.StringKeys
import Derived.Test.YtcjggofcmjpfnaaGreatMMs
import Derived.Test.YtcjggofcmjpfnaaGreatMSd
import Derived.Test.YtcjggofcmjpfnaaGreatMSa
import Derived.Test.YtcjggofcmjpfnaaGreatQS
import Derived.Deep.AppendSrc
namespace Go.Proofs.YtcjggofcmjpfnaaGreat
open Go.RowKit Go.Maps Go.MapKept
open Go.ChangeMaps (setBlock)

/-- How keys lie in memory, and which may be keys. -/
structure KLaw {κ : Type} (P : Program) (kt : TypeId) (ek : κ → Value) (ok : κ → Prop) : Prop where
  keyed : Keyed P kt
  key : ∀ k, ok k → ∃ l, keyOf P kt (ek k) = some l
  inj : ∀ a b, ek a = ek b → a = b
/-- Block b is a map; its entries, in the order in which they came: m. -/
def KMap {κ α : Type} (ek : κ → Value) (ok : κ → Prop) (enc : α → Value) (w : World) (b : Nat) (m : List (κ × α)) : Prop :=
  ∃ es clock, w.heap[b]? = some (.map es clock) ∧ Stamped es clock ∧ (∀ p ∈ m, ok p.1) ∧ es.toList.map (fun x => (x.key, x.val)) = m.map (fun p => (ek p.1, enc p.2))
def klook {κ α : Type} [DecidableEq κ] (m : List (κ × α)) (k : κ) : Option α := (m.find? (fun p => decide (p.1 = k))).map (·.2)
def kput {κ α : Type} [DecidableEq κ] (m : List (κ × α)) (k : κ) (v : α) : List (κ × α) :=
  match m with
  | [] => [(k, v)]
  | p :: r => if p.1 = k then (k, v) :: r else p :: kput r k v
theorem klook_kput {κ α : Type} [DecidableEq κ] (k : κ) (v : α) (j : κ) : ∀ m : List (κ × α), klook (kput m k v) j = if k = j then some v else klook m j
  | [] => by unfold kput klook; by_cases h : k = j <;> simp [h]
  | p :: r => by
    have ih := klook_kput k v j r
    unfold kput
    by_cases h : p.1 = k
    · rw [if_pos h]
      unfold klook
      by_cases hj : k = j
      · simp [hj]
      · have : ¬ p.1 = j := fun e => hj (h.symm.trans e)
        simp [hj, this]
    · rw [if_neg h]
      unfold klook at ih ⊢
      by_cases hj : p.1 = j
      · have : ¬ k = j := fun e => h (hj.trans e.symm)
        simp [hj, this]
      · simpa [hj] using ih

section
variable {κ α : Type} {ek : κ → Value} {ok : κ → Prop} {enc : α → Value} {w : World} {b : Nat} {m : List (κ × α)} {P : Program} {t kt e : TypeId}
theorem KMap.made (ek : κ → Value) (ok : κ → Prop) (enc : α → Value) (w : World) : KMap ek ok enc (w.alloc (.map #[] 0)) w.heap.size [] :=
  ⟨#[], 0, block_alloc_new _ _, stamped_empty 0, by simp, rfl⟩
theorem KMap.lt (h : KMap ek ok enc w b m) : b < w.heap.size := by obtain ⟨es, clock, hb, _⟩ := h; exact lt_of_block hb
theorem KMap.kept {S : Nat → Prop} {w' : World} (h : KMap ek ok enc w b m) (hk : Kept S w w') (hS : ¬ S b) : KMap ek ok enc w' b m := by
  obtain ⟨es, clock, hb, r⟩ := h
  exact ⟨es, clock, (hk.block b (lt_of_block hb) hS).trans hb, r⟩
theorem KMap.same {w' : World} (h : KMap ek ok enc w b m) (hk : w'.heap[b]? = w.heap[b]?) : KMap ek ok enc w' b m := by
  obtain ⟨es, clock, hb, r⟩ := h
  exact ⟨es, clock, hk.trans hb, r⟩
theorem KMap.pure {w' : World} (h : KMap ek ok enc w b m) (hk : Pure w w') : KMap ek ok enc w' b m := h.kept (S := fun _ => False) hk.kept (fun h => h)

theorem KMap.keysOf {es : Array MapEntry} (L : KLaw P kt ek ok) (hw : ∀ p ∈ m, ok p.1) (he : es.toList.map (fun x => (x.key, x.val)) = m.map (fun p => (ek p.1, enc p.2))) : ∀ x ∈ es.toList, ∃ l, keyOf P kt x.key = some l := by
  intro x hx
  have : (x.key, x.val) ∈ es.toList.map (fun x => (x.key, x.val)) := List.mem_map.2 ⟨x, hx, rfl⟩
  rw [he] at this
  obtain ⟨p, hp, e⟩ := List.mem_map.1 this
  obtain ⟨e1, _⟩ := Prod.ext_iff.1 e
  dsimp only at e1
  rw [← e1]
  exact L.key p.1 (hw p hp)

theorem KMap.len (h : KMap ek ok enc w b m) (ht : P.underlying t = some (.map kt e)) (ty : TypeId) : (Builtin.len_ #[t] ty #[.map (some b)]).run P w = .ok (.int .i64 m.length) w := by
  obtain ⟨es, clock, hb, _, _, he⟩ := h
  have hlen : m.length = es.size := by have := congrArg List.length he; simpa using this.symm
  simp [Builtin.len_, run_underlying ht, MapKept.run_getObj_map hb, goInt, Result.andThen, hlen]
variable [DecidableEq κ]
theorem kfind_assoc (inj : ∀ a b, ek a = ek b → a = b) : ∀ (es : List MapEntry) (m : List (κ × α)), es.map (fun x => (x.key, x.val)) = m.map (fun p => (ek p.1, enc p.2)) → ∀ (k : κ),
    ((∀ x ∈ es, x.key ≠ ek k) → m.find? (fun p => decide (p.1 = k)) = none) ∧
    (∀ (j : Nat) (x : MapEntry), es[j]? = some x → x.key = ek k → (es.map (·.key)).Nodup → ∃ v, m.find? (fun p => decide (p.1 = k)) = some (k, v) ∧ x.val = enc v)
  | [], [], _, k => ⟨fun _ => rfl, fun j x h => by simp at h⟩
  | [], _ :: _, h, _ => by simp at h
  | _ :: _, [], h, _ => by simp at h
  | x0 :: es, (k0, v0) :: m, h, k => by
    simp only [List.map_cons, List.cons.injEq, Prod.mk.injEq] at h
    obtain ⟨⟨hk0, hv0⟩, hr⟩ := h
    obtain ⟨i1, i2⟩ := kfind_assoc inj es m hr k
    constructor
    · intro hne
      have h0 : k0 ≠ k := fun e => hne x0 (by simp) (by rw [hk0, e])
      rw [List.find?_cons_of_neg (by simpa using h0)]
      exact i1 fun x hx => hne x (by simp [hx])
    · intro j x hj hx hnd
      cases j with
      | zero =>
        simp at hj; subst hj
        rw [hk0] at hx
        have e : k0 = k := inj _ _ hx
        subst e
        exact ⟨v0, by simp, hv0⟩
      | succ j =>
        simp at hj
        have hnd' := List.nodup_cons.1 (List.map_cons (f := fun x : MapEntry => x.key) ▸ hnd)
        have h0 : k0 ≠ k := fun e => hnd'.1 (by rw [hk0, e, ← hx]; exact List.mem_map.2 ⟨x, List.mem_of_getElem? hj, rfl⟩)
        obtain ⟨v, h1, h2⟩ := i2 j x hj hx hnd'.2
        exact ⟨v, by rw [List.find?_cons_of_neg (by simpa using h0)]; exact h1, h2⟩

/-- 'm[k]'; 'v, ok := m[k]'. -/
theorem KMap.look (h : KMap ek ok enc w b m) (L : KLaw P kt ek ok) (ht : P.underlying t = some (.map kt e)) {z : Value} (hz : (zeroValue e).run P w = .ok z w) (k : κ) (hw : ok k) (c : Bool) :
    (Instr.lookup t (.map (some b)) (ek k) c).run P w = .ok (if c then .tuple #[((klook m k).map enc).getD z, .bool (klook m k).isSome] else ((klook m k).map enc).getD z) w := by
  obtain ⟨es, clock, hb, hst, hwf, he⟩ := h
  have K : Keyed P kt := L.keyed
  obtain ⟨lk, hkey⟩ := L.key k hw
  obtain ⟨f1, f2⟩ := kfind_assoc L.inj es.toList m he k
  rcases K.find w hkey es.toList (KMap.keysOf L hwf he) with ⟨h1, h2⟩ | ⟨j, e0, h1, h2, h3⟩
  · have hn := f1 h2
    simp [Instr.lookup, run_underlying ht, MapKept.run_getObj_map hb, K.check w _ hkey, h1, hz, Result.andThen, klook, hn]
  · obtain ⟨v, hv, hx⟩ := f2 j e0 h2 h3 hst.2.2
    simp [Instr.lookup, run_underlying ht, MapKept.run_getObj_map hb, K.check w _ hkey, h1, Result.andThen, klook, hv, hx]

theorem kput_assoc (inj : ∀ a b, ek a = ek b → a = b) : ∀ (es : List MapEntry) (m : List (κ × α)), es.map (fun x => (x.key, x.val)) = m.map (fun p => (ek p.1, enc p.2)) → ∀ (k : κ) (v : α),
    ((∀ x ∈ es, x.key ≠ ek k) → kput m k v = m ++ [(k, v)]) ∧
    (∀ (j : Nat) (x : MapEntry), es[j]? = some x → x.key = ek k → (es.map (·.key)).Nodup → kput m k v = m.set j (k, v) ∧ m.length = es.length)
  | [], [], _, k, v => ⟨fun _ => rfl, fun j x h => by simp at h⟩
  | [], _ :: _, h, _, _ => by simp at h
  | _ :: _, [], h, _, _ => by simp at h
  | x0 :: es, (k0, v0) :: m, h, k, v => by
    simp only [List.map_cons, List.cons.injEq, Prod.mk.injEq] at h
    obtain ⟨⟨hk0, hv0⟩, hr⟩ := h
    obtain ⟨i1, i2⟩ := kput_assoc inj es m hr k v
    have hlen : m.length = es.length := by have := congrArg List.length hr; simpa using this.symm
    constructor
    · intro hne
      have h0 : ¬ k0 = k := fun e => hne x0 (by simp) (by rw [hk0, e])
      simp only [kput, if_neg h0, List.cons_append]
      rw [i1 fun x hx => hne x (by simp [hx])]
    · intro j x hj hx hnd
      cases j with
      | zero =>
        simp at hj; subst hj
        rw [hk0] at hx
        have e : k0 = k := inj _ _ hx
        simp [kput, e, hlen]
      | succ j =>
        simp at hj
        have hnd' := List.nodup_cons.1 (List.map_cons (f := fun x : MapEntry => x.key) ▸ hnd)
        have h0 : ¬ k0 = k := fun e => hnd'.1 (by rw [hk0, e, ← hx]; exact List.mem_map.2 ⟨x, List.mem_of_getElem? hj, rfl⟩)
        simp only [kput, if_neg h0, List.set_cons_succ, (i2 j x hj hx hnd'.2).1, List.length_cons, hlen, and_self]

/-- 'm[k] = v'. -/
theorem KMap.put (h : KMap ek ok enc w b m) (L : KLaw P kt ek ok) (ht : P.underlying t = some (.map kt e)) (k : κ) (hw : ok k) (v : α) :
    ∃ w', (Instr.mapUpdate t (.map (some b)) (ek k) (enc v)).run P w = .ok () w' ∧ KMap ek ok enc w' b (kput m k v) ∧ w.grownBy w' (some b) ∧ w'.heap.size = w.heap.size := by
  obtain ⟨es, clock, hb, hst, hwf, he⟩ := h
  have K : Keyed P kt := L.keyed
  obtain ⟨lk, hkey⟩ := L.key k hw
  have hlen : m.length = es.size := by have := congrArg List.length he; simpa using this.symm
  obtain ⟨f1, f2⟩ := kput_assoc L.inj es.toList m he k v
  have hblk : ∀ o : Obj, w.grownBy (setBlock w b o) (some b) := fun o => ⟨rfl, rfl, rfl, by simp [setBlock], fun i _ hi => ChangeMaps.heap_setBlock_other hb _ (fun e => hi (by rw [e]))⟩
  rcases K.find w hkey es.toList (KMap.keysOf L hwf he) with ⟨h1, h2⟩ | ⟨j, e0, h1, h2, h3⟩
  · refine ⟨setBlock w b (.map (es.push ⟨ek k, enc v, clock⟩) (clock + 1)), ?_, ⟨_, _, ChangeMaps.heap_setBlock_same hb _, stamped_push hst h2, ?_, ?_⟩, hblk _, by simp [setBlock]⟩
    · simp [Instr.mapUpdate, run_underlying ht, MapKept.run_getObj_map hb, K.check w _ hkey, h1, MapKept.run_setObj_map _ hb, Result.andThen, setBlock]
    · rw [f1 h2]; intro p hp; rcases List.mem_append.1 hp with hp | hp
      · exact hwf p hp
      · simp at hp; subst hp; exact hw
    · rw [f1 h2]; simp [he]
  · have hj : j < es.size := by have := (List.getElem?_eq_some_iff.1 h2).1; simpa using this
    have hstay := K.stays w hkey
    have hgetj : es[j]? = some e0 := by simpa using h2
    obtain ⟨g1, _⟩ := f2 j e0 h2 h3 hst.2.2
    refine ⟨setBlock w b (.map (es.modify j (fun x => { x with key := ek k, val := enc v })) clock), ?_, ⟨_, _, ChangeMaps.heap_setBlock_same hb _, stamped_modify hst j _ (fun _ _ => rfl) (fun x _ hx => by rw [hgetj] at hx; cases hx; exact h3.symm), ?_, ?_⟩, hblk _, by simp [setBlock]⟩
    · simp [Instr.mapUpdate, run_underlying ht, MapKept.run_getObj_map hb, K.check w _ hkey, h1, MapKept.run_setObj_map _ hb, Result.andThen, setBlock, hgetj, h3, hstay]
    · rw [g1]; intro p hp
      rcases List.mem_or_eq_of_mem_set hp with hp | rfl
      · exact hwf p hp
      · exact hw
    · rw [g1]
      apply List.ext_getElem?
      intro i
      have hi := congrArg (·[i]?) he
      simp only [List.getElem?_map, Array.getElem?_toList] at hi
      simp only [List.getElem?_map, Array.getElem?_toList, Array.getElem?_modify, List.getElem?_set]
      by_cases hij : j = i
      · subst hij; simp [hj, hlen]
      · simp [hij, hi]
end

/-- 'm[k] = v' at the operation, for the walk. -/
theorem wpList_kput {κ α : Type} [DecidableEq κ] (ek : κ → Value) (ok : κ → Prop) (enc : α → Value) {P : Program} (w : World) {ops : Array Oper} {rest : List Oper} {o : Oper} {a : Act} {Q : Exit → Act → World → Prop}
    (hg : o.guard = none) (mo x v : Operand) (t : TypeId) (hop : o.op = Op.mapUpdate t mo x v)
    (kt e : TypeId) (L : KLaw P kt ek ok) (ht : P.underlying t = some (.map kt e)) (b : Nat) (m : List (κ × α))
    (hm : a.eval mo = .map (some b)) (hown : KMap ek ok enc w b m) (k : κ) (hw : ok k) (y : α) (hx : a.eval x = ek k) (hv : a.eval v = enc y)
    (hK : ∀ w', KMap ek ok enc w' b (kput m k y) → w.grownBy w' (some b) → w'.heap.size = w.heap.size → wpList P ops Q rest (a.put o.dst undef) w') :
    wpList P ops Q (o :: rest) a w := by
  refine wpList_plain hg fun K' hK' => ?_
  obtain ⟨w', hrun, r1, r2, r3⟩ := hown.put L ht k hw y
  unfold Oper.wp
  simp [execOp, hop, hm, hx, hv, hrun, Result.andThen]
  exact hK' _ _ (hK w' r1 r2 r3)
/-- Texts as keys. -/
theorem text_law {P : Program} {kt : TypeId} (hk : P.underlying kt = some .string) : KLaw P kt (fun s : List UInt8 => .string ⟨s.toArray⟩) (fun s => s.length ≤ maxLen) where
  keyed := string_keyed hk
  key s hs := ⟨_, WideMaps.keyOf_string_mk hk (s := ⟨s.toArray⟩) (by simpa [ByteArray.size] using hs)⟩
  inj a b h := by
    injection h with h
    injection h with h
    have := congrArg Array.toList h
    simpa using this
end Go.Proofs.YtcjggofcmjpfnaaGreat

namespace Go.Proofs.YtcjggofcmjpfnaaGreat
open Go.RowKit Go.Maps Go.Shelf Go.Sort

abbrev ivs (l : List Int) : List Value := l.map (Value.int .i64)
/-- What a predicate is asked: it answers, and writes nothing that was there. -/
def PredI (g : Nat) (lb : Array Value) (p : Int → Bool) (l : List Int) (S : World → Prop) : Prop :=
  ∀ (W : World) (d : Int), d ∈ l → S W → Calls Tryz.prog g (#[.int .i64 d] ++ lb) W fun e w' => e = .returned (.bool (p d)) ∧ Pure W w'
/-- Where the first of that kind stands, or -1. -/
def iidx (l : List Int) (p : Int → Bool) : Int := if l.findIdx p < l.length then (l.findIdx p : Nat) else -1
theorem iidx_hit {l : List Int} {p : Int → Bool} {k : Nat} (hk : k < l.length) (hn : ∀ d ∈ l.take k, p d = false) (hp : p (l.getD k 0) = true) : iidx l p = k := by
  have e : l.findIdx p = k := by
    rw [List.findIdx_eq hk]
    refine ⟨by simpa [List.getD, hk] using hp, fun j hj => ?_⟩
    have hm : l[j]'(by omega) ∈ l.take k := by
      rw [List.mem_take_iff_getElem]
      exact ⟨j, by omega, rfl⟩
    exact hn _ hm
  unfold iidx
  rw [e, if_pos hk]
theorem iidx_none {l : List Int} {p : Int → Bool} (hn : ∀ d ∈ l, p d = false) : iidx l p = -1 := by
  unfold iidx
  rw [if_neg]
  rw [List.findIdx_lt_length]
  rintro ⟨d, hd, h⟩
  rw [hn d hd] at h; cases h
theorem iidx_cases (l : List Int) (p : Int → Bool) : (iidx l p = -1 ∧ ∀ d ∈ l, p d = false) ∨ ∃ k : Nat, iidx l p = k ∧ k < l.length ∧ (∀ d ∈ l.take k, p d = false) ∧ p (l.getD k 0) = true := by
  unfold iidx
  split
  · rename_i h
    refine .inr ⟨_, rfl, h, fun d hd => ?_, ?_⟩
    · rw [List.mem_take_iff_getElem] at hd
      obtain ⟨j, hj, rfl⟩ := hd
      have := List.not_of_lt_findIdx (p := p) (xs := l) (i := j) (by omega)
      simpa using this
    · have := List.findIdx_getElem (p := p) (xs := l) (w := h)
      simpa [List.getD, h] using this
  · rename_i h
    refine .inl ⟨rfl, fun d hd => ?_⟩
    rw [List.findIdx_lt_length] at h
    by_cases e : p d = true
    · exact absurd ⟨d, hd, e⟩ h
    · simpa using e
theorem getD_mem_i {l : List Int} {k : Nat} (h : k < l.length) : l.getD k 0 ∈ l := by simp [List.getD, h]

def IxP (l : List Int) (p : Int → Bool) (w : World) (e : Ending) (w' : World) : Prop := e = .returned (.int .i64 (iidx l p)) ∧ Pure w w'
set_option maxHeartbeats 1000000 in
theorem indexi_any (v : Value) (l : List Int) (w : World) (hr : Ints w v l) (g : Nat) (lb : Array Value) (p : Int → Bool) (eg : ∀ args w, (callFunc g args).run Tryz.prog w = .ok (.enter g args) w)
    (hg : PredI g lb p l (Pure w)) :
    Calls Tryz.prog 71 #[v, .func (.func g) #[] lb] w (IxP l p w) := by
  obtain ⟨a, cap, rfl⟩ := hr.shape
  have hll : l.length ≤ maxLen := Row.len_le hr
  unfold maxLen at hll
  have Hr := hid hr
  have Hg := hid hg
  clear hr hg
  go_enter Tryz.func71, Tryz.ntmps71
  go_wp2
  go_loopw [8] (fun i wr => ∃ k : Nat, k ≤ l.length ∧ i = .int .i64 k ∧ (∀ d ∈ l.take k, p d = false) ∧ Pure w wr) (fun i _ => l.length - (RowKit.intOf i).toNat)
  case atStart => exact ⟨0, Nat.zero_le _, rfl, by simp, Below.refl _ _⟩
  case round =>
    obtain ⟨k, hk, rfl, hno, hp⟩ := hrel
    by_cases hlt : k < l.length
    · obtain ⟨b, off, rfl, hb, c0⟩ := ints_get_j (Row.pure Hr.out hp : Ints wr _ l) hlt
      have hlt' : (k : Int) < (l.length : Int) := by omega
      have Hhit := hid (iidx_hit (p := p) hlt hno)
      have Hmiss : Hid (p (l.getD k 0) = false → ∀ d ∈ l.take (k + 1), p d = false) := fun h d hd => by
        rw [take_succ_get l k hlt, List.mem_append, List.mem_singleton] at hd
        rcases hd with hd | rfl
        · exact hno d hd
        · exact h
      have Hcall := hid (Hg.out wr (l.getD k 0) (getD_mem_i hlt) hp)
      have Hp := hid hp
      clear hno hp hb
      generalize l.getD k 0 = z at *
      cases hq : p z with
      | true =>
        rw [hq] at Hcall
        have Hh := hid (Hhit.out hq)
        clear Hhit Hmiss hq
        go_wp2_with fail
        refine Hcall.out.mono ?_
        rintro e w1 ⟨rfl, hp1⟩
        have Hp1 := hid (Hp.out.then_ hp1)
        clear hp1 c0
        go_wp2
        go_ret
        exact ⟨by rw [Hh.out]; rfl, Hp1.out⟩
      | false =>
        rw [hq] at Hcall
        have Hm := hid (Hmiss.out hq)
        clear Hhit Hmiss hq
        go_wp2_with fail
        refine Hcall.out.mono ?_
        rintro e w1 ⟨rfl, hp1⟩
        have Hp1 := hid (Hp.out.then_ hp1)
        clear hp1 c0
        go_wp2
        go_roundw
        case rel => exact ⟨k + 1, by omega, by go_num, Hm.out, Hp1.out⟩
        case measure => simp [RowKit.intOf]; omega
    · have hlt' : ¬ (k : Int) < (l.length : Int) := by omega
      have Hn := hid (iidx_none (l := l) (p := p) (by rw [List.take_of_length_le (by omega)] at hno; exact hno))
      have Hp := hid hp
      clear hno hp
      go_wp2
      go_ret
      exact ⟨by rw [Hn.out]; rfl, Hp.out⟩

/-! ### DeleteFunc -/
theorem own_get_i {w : World} {base n cap : Nat} {a : Option Addr} {l : List Int} (h : w.ownsRow base 3 1 (.slice a n cap) l.length (ivs l)) {k : Nat} (hk : k < l.length) :
    ∃ b cs, a = some ⟨b, 0, none⟩ ∧ base ≤ b ∧ w.heap[b]? = some (.cells cs 3 (0, 0)) ∧ w.cell? ⟨b, k, none⟩ = some (.int .i64 (l.getD k 0)) := by
  obtain ⟨hl, ⟨e, h0⟩ | ⟨g, cap', cur, e, hb, hg, h1, h2, h3, h4⟩⟩ := h
  · omega
  · injection e with e1 e2 e3
    subst e1
    refine ⟨_, _, rfl, hb, hg, ?_⟩
    have : cur.toList[k]? = (ivs l)[k]? := by rw [← h4, List.getElem?_take, if_pos (by omega)]
    rw [cell_of_block hg, ← Array.getElem?_toList, this]
    simp [ivs, List.getD, hk]
theorem own_set_i {w : World} {base b n cap : Nat} {l : List Int} (h : w.ownsRow base 3 1 (.slice (some ⟨b, 0, none⟩) n cap) l.length (ivs l)) (k : Nat) (d : Int) :
    (w.setCell ⟨b, k, none⟩ (.int .i64 d)).ownsRow base 3 1 (.slice (some ⟨b, 0, none⟩) n cap) (l.set k d).length (ivs (l.set k d)) := by
  have e : n = l.length := by obtain ⟨a', c', e⟩ := (Row.of_own h).shape; injection e
  subst e
  have h1 := (h.stored k (.int .i64 d)).1
  have e2 : ivs (l.set k d) = (ivs l).set k (.int .i64 d) := by simp [ivs, List.map_set]
  rw [e2, List.length_set]; exact h1
theorem own_cut_i {w : World} {base g n cap : Nat} {L : List Int} (h : w.ownsRow base 3 1 (.slice (some ⟨g, 0, none⟩) n cap) L.length (ivs L)) {i : Nat} (hi : i ≤ L.length) (vs : List Value) :
    (w.setCells g i vs).ownsRow base 3 1 (.slice (some ⟨g, 0, none⟩) i cap) (L.take i).length (ivs (L.take i)) := by
  have hlen : (L.take i).length = i := by rw [List.length_take]; omega
  obtain ⟨hl, ⟨e, h0⟩ | ⟨g', cap', cur, e, hb, hg, h1, h2, h3, h4⟩⟩ := h
  · cases e
  · cases e
    refine ⟨by simp [ivs], .inr ⟨g, cap, _, by rw [hlen], hb, block_setCells vs i w cur hg, by omega, h2, by rw [size_setMany, h3], ?_⟩⟩
    have e3 : ivs (L.take i) = (ivs L).take (i * 1) := by simp [ivs, List.map_take]
    rw [hlen, setMany_take _ _ _ _ (by omega), e3, ← h4, List.take_take, Nat.min_eq_left (Nat.mul_le_mul_right 1 hi)]
/-- clear at numbers. -/
theorem clear_ints (w : World) (ty : TypeId) (b o n c : Nat) (hn : 0 < n) (hc : ∀ j, j < n → (w.cell? ⟨b, o + j, none⟩).isSome = true) (hf : ∀ j, j < n → w.frozen? ⟨b, o + j, none⟩ = false) :
    (Builtin.clear_ #[33] ty #[.slice (some ⟨b, o, none⟩) n c]).run Tryz.prog w = .ok (.tuple #[]) (w.setCells b o (Builtin.zeroCells #[.int .i64 0] n).toList) := by
  have hv : ∀ w, (zeroValue 3).run Tryz.prog w = .ok (.int .i64 0) w := fun w => by kernel_rfl
  have hlen : (Builtin.zeroCells #[.int .i64 0] n).toList.length = n := by simp [Builtin.zeroCells]
  have h1 : ∀ v ∈ (Builtin.zeroCells #[.int .i64 0] n).toList, v.oneCell' = true := by
    intro v hv
    simp only [Builtin.zeroCells, Array.toList_map, List.mem_map] at hv
    obtain ⟨i, _, rfl⟩ := hv
    have : i % (#[Value.int .i64 0] : Array Value).size = 0 := Nat.mod_one i
    rw [this]; rfl
  have hst := run_storeCells_cells (P := Tryz.prog) b o (Builtin.zeroCells #[.int .i64 0] n).toList 0 w (by rw [hlen]; simpa using hc) (by rw [hlen]; simpa using hf) h1
  simp only [Nat.add_zero] at hst
  obtain ⟨m, rfl⟩ : ∃ m, n = m + 1 := ⟨n - 1, by omega⟩
  have hcs : (Value.int .i64 0).cells = #[.int .i64 0] := rfl
  simp [Builtin.clear_, run_underlying Tryz.underlying33, hv, hcs, hst]
/-- i are kept, r are read. -/
structure DiI (base : Nat) (l : List Int) (p : Int → Bool) (v : Value) (w : World) (i r : Nat) (L : List Int) (W : World) : Prop where
  lt : i < r
  len : L.length = l.length
  own : W.ownsRow base 3 1 v L.length (ivs L)
  grown : w.grownBy W v.ownBlock
  low : (l.take r).filter (fun d => !p d) = L.take i
  high : ∀ j, r ≤ j → L.getD j 0 = l.getD j 0
theorem DiI.start {base : Nat} {l : List Int} {p : Int → Bool} {v : Value} {w W : World} {k : Nat} (h : W.ownsRow base 3 1 v l.length (ivs l)) (hg : w.grownBy W v.ownBlock) (hk : k < l.length) (hn : ∀ d ∈ l.take k, p d = false) (hp : p (l.getD k 0) = true) : DiI base l p v w k (k + 1) l W :=
  ⟨by omega, rfl, h, hg, by
    rw [take_succ_get l k hk, List.filter_append, List.filter_eq_self.2 (fun d hd => by rw [hn d hd]; rfl)]
    simp only [List.filter_cons, hp]; simp, fun _ _ => rfl⟩
theorem DiI.pure {base : Nat} {l : List Int} {p : Int → Bool} {v : Value} {w : World} {i r : Nat} {L : List Int} {W W' : World} (h : DiI base l p v w i r L W) (hp : Pure W W') : DiI base l p v w i r L W' := ⟨h.lt, h.len, own_pure h.own hp, grown_trans h.grown (grown_of_pure _ hp), h.low, h.high⟩
theorem DiI.skip {base : Nat} {l : List Int} {p : Int → Bool} {v : Value} {w : World} {i r : Nat} {L : List Int} {W : World} (h : DiI base l p v w i r L W) (hr : r < l.length) (e : p (l.getD r 0) = true) : DiI base l p v w i (r + 1) L W :=
  ⟨by have := h.lt; omega, h.len, h.own, h.grown, by rw [take_succ_get l r hr, List.filter_append, h.low]; simp only [List.filter_cons, e]; simp, fun j hj => h.high j (by omega)⟩
theorem DiI.keep {base g n cap : Nat} {l : List Int} {p : Int → Bool} {w : World} {i r : Nat} {L : List Int} {W : World} (h : DiI base l p (.slice (some ⟨g, 0, none⟩) n cap) w i r L W) (hr : r < l.length) (d : Int) (hd : l.getD r 0 = d) (e : p d = false) :
    DiI base l p (.slice (some ⟨g, 0, none⟩) n cap) w (i + 1) (r + 1) (L.set i d) (W.setCell ⟨g, i, none⟩ (.int .i64 d)) := by
  have hlt := h.lt
  have hlen := h.len
  have hi : i < L.length := by omega
  refine ⟨by omega, by rw [List.length_set, hlen], own_set_i h.own i d, ?_, ?_, fun j hj => ?_⟩
  · exact grown_trans h.grown (grownBy_setCells g [.int .i64 d] i W)
  · rw [take_succ_get l r hr, List.filter_append, h.low, hd, List.take_set, List.take_succ_eq_append_getElem hi]
    rw [List.set_append_right _ _ (by rw [List.length_take]; omega)]
    simp [Nat.min_eq_left (Nat.le_of_lt hi), e]
  · rw [← h.high j (by omega)]
    simp only [List.getD]
    rw [List.getElem?_set_ne (by omega)]
def DiP (base : Nat) (v : Value) (l : List Int) (p : Int → Bool) (w : World) (e : Ending) (w' : World) : Prop := ∃ v', e = .returned v' ∧ w'.ownsRow base 3 1 v' (l.filter fun d => !p d).length (ivs (l.filter fun d => !p d)) ∧ w.grownBy w' v.ownBlock
theorem DiI.done {base g n cap : Nat} {l : List Int} {p : Int → Bool} {w : World} {i : Nat} {L : List Int} {W : World} (h : DiI base l p (.slice (some ⟨g, 0, none⟩) n cap) w i l.length L W) (vs : List Value) :
    DiP base (.slice (some ⟨g, 0, none⟩) n cap) l p w (.returned (.slice (some ⟨g, 0, none⟩) i cap)) (W.setCells g i vs) := by
  have hl := h.low
  rw [List.take_length] at hl
  refine ⟨_, rfl, ?_, grown_trans h.grown (grownBy_setCells g vs i W)⟩
  rw [hl]
  exact own_cut_i h.own (i := i) (by rw [h.len]; exact Nat.le_of_lt h.lt) vs
theorem di_whole {base : Nat} {v : Value} {l : List Int} {p : Int → Bool} {w W : World} (h : W.ownsRow base 3 1 v l.length (ivs l)) (hg : w.grownBy W v.ownBlock) (hn : ∀ d ∈ l, p d = false) : DiP base v l p w (.returned v) W :=
  have e : l.filter (fun d => !p d) = l := List.filter_eq_self.2 (fun d hd => by rw [hn d hd]; rfl)
  ⟨v, rfl, by rw [e]; exact h, hg⟩

set_option maxRecDepth 8000 in
set_option maxHeartbeats 4000000 in
theorem deletei_own (base : Nat) (v : Value) (l : List Int) (w : World) (h : w.ownsRow base 3 1 v l.length (ivs l)) (hl : l.length ≤ 100000) (g : Nat) (lb : Array Value) (p : Int → Bool) (eg : ∀ args w, (callFunc g args).run Tryz.prog w = .ok (.enter g args) w)
    (hg : PredI g lb p l (fun W => w.grownBy W v.ownBlock)) :
    Calls Tryz.prog 42 #[v, .func (.func g) #[] lb] w (DiP base v l p w) := by
  obtain ⟨a, cap, rfl⟩ := own_shape_d h
  have Hi := hid (indexi_any _ l w (Row.of_own h) g lb p eg (fun W d hd hW => hg W d hd (grown_of_pure _ hW)))
  have H := hid h
  have Hg := hid hg
  clear h hg
  rcases iidx_cases l p with ⟨e, hn⟩ | ⟨m, e, hlt, hn, hp⟩
  · have Hw := hid (fun W (hW : Pure w W) => di_whole (own_pure H.out hW) (grown_of_pure (Value.slice a l.length cap).ownBlock hW) hn)
    unfold IxP at Hi
    rw [e] at Hi
    clear hn e
    go_enter Tryz.func42, Tryz.ntmps42
    go_wp2_with fail
    refine Hi.out.mono ?_
    rintro e w1 ⟨rfl, hp1⟩
    have Hw1 := hid (Hw.out w1 hp1)
    clear hp1
    go_wp2
    go_ret
    exact Hw1.out
  · obtain ⟨b, cs, rfl, hbase, hblk, _⟩ := own_get_i H.out (k := m) hlt
    have hcapl : l.length ≤ cap ∧ cap ≤ maxLen := by
      obtain ⟨_, a', c', e, q1, q2, _⟩ := Row.of_own H.out
      cases e; exact ⟨q1, q2⟩
    unfold maxLen at hcapl
    have Hst := hid (fun W (hW : Pure w W) => DiI.start (own_pure H.out hW) (grown_of_pure (Value.slice (some ⟨b, 0, none⟩) l.length cap).ownBlock hW) hlt hn hp)
    unfold IxP at Hi
    rw [e] at Hi
    have hm1 : ((m : Int) == -1) = false := by simp
    clear hn e hp hblk
    go_enter Tryz.func42, Tryz.ntmps42
    go_wp2_with fail
    refine Hi.out.mono ?_
    rintro e w1 ⟨rfl, hp1⟩
    have Hst1 := hid (Hst.out w1 hp1)
    clear hp1 Hst Hi
    go_wp2_with fail
    generalize hM : (m : Int) = M
    have HM := hid hM
    clear hM
    go_loopw [5, 6, 7] (fun s5 s6 _ wr => ∃ (i r : Nat) (L : List Int), s5 = .int .i64 i ∧ s6 = .int .i64 r ∧ r ≤ l.length ∧ DiI base l p (.slice (some ⟨b, 0, none⟩) l.length cap) w i r L wr) (fun _ s6 _ _ => l.length - (RowKit.intOf s6).toNat)
    case atStart => exact ⟨m, m + 1, l, by rw [← HM.out], by rw [← HM.out]; first | rfl | go_num, by omega, Hst1.out⟩
    case round =>
      obtain ⟨i, r, L, rfl, rfl, hle, hI⟩ := hrel
      have hilt := hI.lt
      have hlen := hI.len
      by_cases hr : r < l.length
      · obtain ⟨b1, cs1, e1, _, hblk, x0⟩ := own_get_i hI.own (k := r) (by omega)
        cases e1
        obtain ⟨b3, cs3, e3, _, _, z0⟩ := own_get_i hI.own (k := i) (by omega)
        cases e3
        rw [hI.high _ (by omega)] at x0
        have c1 : (r : Int) < (l.length : Int) := by omega
        have c5 : (i : Int) < (l.length : Int) := by omega
        have Hkeep := hid (fun W (hW : Pure wr W) d hd e => (hI.pure hW).keep hr d hd e)
        have Hskip := hid (fun W (hW : Pure wr W) e => (hI.pure hW).skip hr e)
        have Hcall := hid (fun W (hW : Pure wr W) => Hg.out W (l.getD r 0) (getD_mem_i hr) (grown_trans hI.grown (grown_of_pure _ hW)))
        have Hblk := hid hblk
        generalize hU : l.getD r 0 = U at *
        generalize L.getD i 0 = Z at *
        have Hkeep2 := hid (fun W (hW : Pure wr W) e => Hkeep.out W hW U rfl e)
        have Hcc := hid (Hcall.out wr (Below.refl _ _))
        clear Hkeep Hcall hblk hU hI
        cases hq : p U with
        | true =>
          rw [hq] at Hcc
          have Hq := hid hq
          clear hq
          go_wp2_with fail
          refine Hcc.out.mono ?_
          rintro e w2 ⟨rfl, hp2⟩
          have Hsk := hid (Hskip.out w2 hp2 Hq.out)
          clear hp2 x0 z0
          go_wp2
          go_roundw
          case rel => exact ⟨i, r + 1, L, rfl, by go_num, by omega, Hsk.out⟩
          case measure => simp [RowKit.intOf]; omega
        | false =>
          rw [hq] at Hcc
          have Hq := hid hq
          clear hq
          go_wp2_with fail
          refine Hcc.out.mono ?_
          rintro e w2 ⟨rfl, hp2⟩
          have hb2 := (hp2.block _ (lt_of_block Hblk.out)).trans Hblk.out
          have f0 : w2.frozen? ⟨b, i, none⟩ = false := free_of_block hb2 _
          have y0 : w2.cell? ⟨b, i, none⟩ = some (.int .i64 Z) := (hp2.cell (p := ⟨b, i, none⟩) (lt_of_block Hblk.out)).trans z0
          have Hsk := hid (Hkeep2.out w2 hp2 Hq.out)
          clear hp2 hb2 x0 z0
          go_wp2
          go_roundw
          case rel => exact ⟨i + 1, r + 1, L.set i U, by go_num, by go_num, by omega, Hsk.out⟩
          case measure => simp [RowKit.intOf]; omega
      · have c1 : ¬ (r : Int) < (l.length : Int) := by omega
        have c2 : (i : Int) < (l.length : Int) := by omega
        have c3 : (i : Int) < (cap : Int) := by omega
        have c4 : i < cap := by omega
        have hend : r = l.length := by omega
        have hcell : ∀ j, j < l.length → (wr.cell? ⟨b, j, none⟩).isSome = true ∧ wr.frozen? ⟨b, j, none⟩ = false := by
          intro j hj
          have ho := hI.own
          rw [hlen] at ho
          obtain ⟨_, ⟨e, _⟩ | ⟨g', cap', cur, e, _, hg, q1, q2, q3, q4⟩⟩ := ho
          · cases e
          · cases e
            refine ⟨?_, free_of_block hg _⟩
            rw [cell_of_block hg]
            have : j < cur.size := by rw [q3]; omega
            simp [this]
        have hcl : ∀ ty, (Builtin.clear_ #[33] ty #[.slice (some ⟨b, i, none⟩) (l.length - i) (cap - i)]).run Tryz.prog wr = .ok (.tuple #[]) (wr.setCells b i (Builtin.zeroCells #[.int .i64 0] (l.length - i)).toList) :=
          fun ty => clear_ints wr ty b i (l.length - i) (cap - i) (by omega) (fun j hj => (hcell _ (by omega)).1) (fun j hj => (hcell _ (by omega)).2)
        subst hend
        have Hd := hid (fun vs => hI.done vs)
        clear hcell hI
        go_wp2
        go_ret
        exact Hd.out _
end Go.Proofs.YtcjggofcmjpfnaaGreat

namespace Go.Proofs.YtcjggofcmjpfnaaGreat
open Go.RowKit Go.Maps Go.Shelf Go.Sort

abbrev tk (s : List UInt8) : Value := .string ⟨s.toArray⟩
abbrev tok (s : List UInt8) : Prop := s.length ≤ maxLen
theorem tlaw : KLaw Tryz.prog 9 tk tok := text_law Tryz.underlying9
/-- A map that holds the texts M. -/
def MHas (W : World) (b : Nat) (M : List (List UInt8)) : Prop := ∃ m : List (List UInt8 × Bool), KMap tk tok Value.bool W b m ∧ ∀ s, klook m s = if s ∈ M then some true else none
theorem MHas.pure {W W' : World} {b : Nat} {M : List (List UInt8)} (h : MHas W b M) (hp : Pure W W') : MHas W' b M := by
  obtain ⟨m, h1, h2⟩ := h
  exact ⟨m, h1.pure hp, h2⟩
theorem MHas.kept {S : Nat → Prop} {W W' : World} {b : Nat} {M : List (List UInt8)} (h : MHas W b M) (hp : Kept S W W') (hb : ¬ S b) : MHas W' b M := by
  obtain ⟨m, h1, h2⟩ := h
  exact ⟨m, h1.kept hp hb, h2⟩
theorem zeroB (w : World) : (zeroValue 4).run Tryz.prog w = .ok (.bool false) w := by kernel_rfl
theorem MHas.look {W : World} {b : Nat} {M : List (List UInt8)} (h : MHas W b M) (s : List UInt8) (hs : s.length ≤ maxLen) :
    (Instr.lookup 76 (.map (some b)) (.string (bs s)) false).run Tryz.prog W = .ok (.bool (decide (s ∈ M))) W := by
  obtain ⟨m, h1, h2⟩ := h
  have := h1.look tlaw Tryz.underlying76 (zeroB W) s hs false
  rw [h2 s] at this
  by_cases hm : s ∈ M
  · rw [if_pos hm] at this
    rw [decide_eq_true hm]; exact this
  · rw [if_neg hm] at this
    rw [decide_eq_false hm]; exact this
theorem MHas.made (W : World) : MHas (W.alloc (.map #[] 0)) W.heap.size [] := ⟨[], KMap.made _ _ _ _, fun s => by simp [klook]⟩
theorem mhas_put {m : List (List UInt8 × Bool)} {M : List (List UInt8)} (h : ∀ s, klook m s = if s ∈ M then some true else none) (x : List UInt8) (s : List UInt8) : klook (kput m x true) s = if s ∈ M ++ [x] then some true else none := by
  rw [klook_kput, h]
  by_cases h1 : x = s
  · subst h1; simp
  · have : ¬ s = x := fun e => h1 e.symm
    simp [h1, this]
theorem bagB_len {g : Bag} (h : SmallG g) : (bagB g).length ≤ maxLen := by
  obtain ⟨h1, h2, h3, h4, h5, h6⟩ := h
  have := rowB_len g.2.1 h2 h5
  have := rowB_len g.2.2 h3 h6
  have := num_len g.1.length (by omega)
  have := flatM_len g.1 h1
  unfold bagB ctxB maxLen
  simp only [List.length_append]
  omega
theorem bmark_len {U : List Dot} {g : Bag} (hg : BOk U g) (hU : U.length ≤ 10000) (x : Int) : (bmark g x).length ≤ maxLen := bagB_len ((hg.part x).small hU)

set_option maxHeartbeats 2000000 in
theorem lacks1_any (v0 v1 v2 : Value) (g : Bag) (M : List (List UInt8)) (x : Int) (U : List Dot) (hb bb mb : Nat) (w : World) (hr : BR3 v0 v1 v2 g w) (hg : BOk U g) (hU : U.length ≤ 400) (hm : MHas w mb M)
    (hh : w.cell? ⟨hb, 0, none⟩ = some (.map (some mb))) (h0 : w.cell? ⟨bb, 0, none⟩ = some v0) (h1 : w.cell? ⟨bb, 1, none⟩ = some v1) (h2 : w.cell? ⟨bb, 2, none⟩ = some v2) :
    Calls Tryz.prog 43 #[.int .i64 x, .pointer (some ⟨hb, 0, none⟩), .pointer (some ⟨bb, 0, none⟩)] w fun e w' => e = .returned (.bool (decide (bmark g x ∈ M))) ∧ Pure w w' := by
  have hmk := hid (fun W (hW : Pure w W) => smark_any v0 v1 v2 g x U W (hr.pure hW) hg hU)
  have hS : Hid (∀ W, Pure w W → (W.cell? ⟨hb, 0, none⟩ = some (.map (some mb)) ∧ W.cell? ⟨bb, 0, none⟩ = some v0 ∧ W.cell? ⟨bb, 1, none⟩ = some v1 ∧ W.cell? ⟨bb, 2, none⟩ = some v2 ∧ (Instr.lookup 76 (.map (some mb)) (.string (bs (bmark g x))) false).run Tryz.prog W = .ok (.bool (decide (bmark g x ∈ M))) W ∧ Pure w W)) := fun W hW =>
    ⟨pat hW hh, pat hW h0, pat hW h1, pat hW h2, (hm.pure hW).look _ (bmark_len hg (by omega) x), hW⟩
  generalize decide (bmark g x ∈ M) = D at *
  generalize bs (bmark g x) = K at *
  have hS2 : Hid (∀ W : World, (W.cell? ⟨hb, 0, none⟩ = some (.map (some mb)) ∧ W.cell? ⟨bb, 0, none⟩ = some v0 ∧ W.cell? ⟨bb, 1, none⟩ = some v1 ∧ W.cell? ⟨bb, 2, none⟩ = some v2 ∧ (Instr.lookup 76 (.map (some mb)) (.string K) false).run Tryz.prog W = .ok (.bool D) W ∧ Pure w W) → Pure w W) := fun W h => h.2.2.2.2.2
  have hst := hid (hS.out w.drew (Below.refl _ _).drew)
  clear hr hg hm hh h0 h1 h2
  go_enter Tryz.func43, Tryz.ntmps43
  go_wp2_with fail
  go_region_held3 (fun W => W.cell? ⟨hb, 0, none⟩ = some (.map (some mb)) ∧ W.cell? ⟨bb, 0, none⟩ = some v0 ∧ W.cell? ⟨bb, 1, none⟩ = some v1 ∧ W.cell? ⟨bb, 2, none⟩ = some v2 ∧ (Instr.lookup 76 (.map (some mb)) (.string K) false).run Tryz.prog W = .ok (.bool D) W ∧ Pure w W)
    (first | with_reducible exact hst.out | with_reducible assumption | with_reducible exact hS.out _ (Pure.then_ (hS2.out _ (by assumption)) (by assumption)))
    ((go_at_call 41; (with_reducible refine (hmk.out _ (hS2.out _ (by assumption))).mono ?_); rintro e w9 ⟨rfl, hp9⟩))
  have Hp9 := hid (hS2.out w9 (by assumption))
  clear hp9 hst hS hS2
  go_wp2
  go_ret
  exact ⟨rfl, Hp9.out⟩

set_option maxRecDepth 8000 in
set_option maxHeartbeats 4000000 in
theorem slacks_any (v0 v1 v2 v : Value) (g : Bag) (M : List (List UInt8)) (U : List Dot) (w : World) (hr : BR3 v0 v1 v2 g w) (hg : BOk U g) (hU : U.length ≤ 400) (hM : Strs w v M) (hMl : ∀ s ∈ M, s.length ≤ maxLen) :
    Calls Tryz.prog 18 #[.agg #[v0, v1, v2], v] w (IntsO w (blacks g M)) := by
  obtain ⟨av, cv, rfl⟩ := hM.shape
  have hll : M.length ≤ maxLen := Row.len_le hM
  unfold maxLen at hll
  obtain ⟨wz, hwz⟩ : ∃ wz, wz = ((w.alloc (.cells #[v0, v1, v2] 31)).alloc (.map #[] 0)).alloc (.cells #[.map (some (w.heap.size + 1))] 76) := ⟨_, rfl⟩
  have Hpz := hid (show Pure w wz from by rw [hwz]; exact (((Below.refl _ _).alloc (Nat.le_refl _) _).alloc (by simp) _).alloc (by simp; omega) _)
  have hsz : wz.heap.size = w.heap.size + 3 := by rw [hwz]; simp
  have n1 := block_alloc_new ((w.alloc (.cells #[v0, v1, v2] 31)).alloc (.map #[] 0)) (.cells #[.map (some (w.heap.size + 1))] 76)
  simp only [World.size_alloc] at n1
  have HB : Hid (wz.heap[w.heap.size]? = some (.cells #[v0, v1, v2] 31 (0, 0)) ∧ wz.heap[w.heap.size + 1 + 1]? = some (.cells #[.map (some (w.heap.size + 1))] 76 (0, 0))) := by
    show _ ∧ _
    rw [hwz]
    exact ⟨block_alloc_old (block_alloc_old (block_alloc_new _ _) _) _, n1⟩
  have hm0 : MHas wz (w.heap.size + 1) [] := by
    have := MHas.made (w.alloc (.cells #[v0, v1, v2] 31))
    rw [World.size_alloc] at this
    rw [hwz]; exact this.pure ((Below.refl _ _).alloc (Nat.le_refl _) _)
  have Hm0 := hid hm0
  have HM := hid (fun W (hW : Kept (fun j => j = w.heap.size + 1) wz W) => (show Strs W _ M from Row.kept (Row.pure hM Hpz.out) hW (fun k hk e => by have := Row.lt hM k hk; omega)))
  have HR := hid (fun W (hW : Kept (fun j => j = w.heap.size + 1) wz W) => (show BR3 v0 v1 v2 g W from (hr.pure Hpz.out).kept hW (fun k hk e => by have := hr.lt.1 k hk; omega) (fun k hk e => by have := hr.lt.2.1 k hk; omega) (fun k hk e => by have := hr.lt.2.2 k hk; omega)))
  have HX : Hid (∀ W, Kept (fun j => j = w.heap.size + 1) wz W → (W.cell? ⟨w.heap.size + 1 + 1, 0, none⟩ = some (.map (some (w.heap.size + 1))) ∧ W.cell? ⟨w.heap.size, 0, none⟩ = some v0 ∧ W.cell? ⟨w.heap.size, 1, none⟩ = some v1 ∧ W.cell? ⟨w.heap.size, 2, none⟩ = some v2)) := fun W hW => by
    have e0 := (hW.block _ (lt_of_block HB.out.1) (by omega)).trans HB.out.1
    have e1 := (hW.block _ (lt_of_block HB.out.2) (by omega)).trans HB.out.2
    exact ⟨cell_of_block e1 0, cell_of_block e0 0, cell_of_block e0 1, cell_of_block e0 2⟩
  have Hlt := hid hr.lt
  have HMl := hid hMl
  have Hg := hid hg
  have HU := hid hU
  have Hsz := hid hsz
  have hdf := hid (show blacks g M = (cnodes g.2.1 g.2.2).filter (fun x => !decide (bmark g x ∈ M)) from rfl)
  have hnl := hid (show (cnodes g.2.1 g.2.2).length ≤ 10000 from by
    have := cnodes_len' g.2.1 g.2.2
    have := hg.sml.l0; have := hg.sml.l1; omega)
  have hmm := @run_makeMap Tryz.prog
  clear hr hg hU hM hMl n1 hm0 hsz
  go_enter Tryz.func18, Tryz.ntmps18
  go_wp2_with fail
  rw [← hwz]
  clear hwz hmm
  go_loopw [11] (fun i wr => ∃ k : Nat, k ≤ M.length ∧ i = .int .i64 k ∧ MHas wr (w.heap.size + 1) (M.take k) ∧ Kept (fun j => j = w.heap.size + 1) wz wr) (fun i _ => M.length - (RowKit.intOf i).toNat)
  case atStart => exact ⟨0, Nat.zero_le _, rfl, Hm0.out, Kept.refl _ _⟩
  case round =>
    obtain ⟨k, hk, rfl, hmh, hkp⟩ := hrel
    obtain ⟨x9, x0, x1, x2⟩ := HX.out wr hkp
    by_cases hlt : k < M.length
    · have hlt' : (k : Int) < (M.length : Int) := by omega
      obtain ⟨b, off, e2, hb, hx⟩ := Strs.get (HM.out wr hkp) hlt
      subst e2
      have Hstep := hid (take_succ_s M k hlt)
      have hs := HMl.out (M.getD k []) (by simp [List.getD, hlt])
      generalize M.getD k [] = s at *
      obtain ⟨m, hmp, hml⟩ := hmh
      have Hmp := hid hmp
      have Hml := hid (fun t => mhas_put hml s t)
      have Hkp := hid hkp
      clear hmp hml hkp hb
      go_wp2_with (at_mapUpdate; refine wpList_kput tk tok Value.bool _ rfl _ _ _ 76 rfl 9 4 tlaw Tryz.underlying76 (w.heap.size + 1) m rfl Hmp.out s hs true rfl rfl ?_; intro w3 hmap3 hg3 hs3; have Hmap3 := hid hmap3; have Hg3 := hid hg3; clear hmap3 hg3 hs3)
      go_roundw
      case rel => exact ⟨k + 1, by omega, by go_num, ⟨_, Hmap3.out, by rw [Hstep.out]; exact Hml.out⟩, Hkp.out.grown Hg3.out (fun j hj _ => by cases hj; rfl)⟩
      case measure => simp [RowKit.intOf]; omega
    · have hlt' : ¬ (k : Int) < (M.length : Int) := by omega
      rw [List.take_of_length_le (by omega)] at hmh
      have Hkp := hid hkp
      have Hmh := hid hmh
      have Hn := hid (snodes_any v0 v1 v2 g U wr (HR.out wr hkp) Hg.out HU.out)
      unfold IntsO at Hn
      generalize cnodes g.2.1 g.2.2 = N at *
      clear hkp hmh
      go_wp2_with fail
      refine Hn.out.mono ?_
      rintro e w2 ⟨v2', rfl, hown2, hp2⟩
      have hsr := Hkp.out.size
      have hk2 := Hkp.out.trans (Pure.kept (S := fun j => j = w.heap.size + 1) hp2)
      obtain ⟨y9, y0, y1, y2⟩ := HX.out w2 hk2
      have hd := hid (deletei_own wr.heap.size v2' N w2 hown2 (by have := hnl.out; omega) 43 #[.pointer (some ⟨w.heap.size + 1 + 1, 0, none⟩), .pointer (some ⟨w.heap.size, 0, none⟩)] (fun x => decide (bmark g x ∈ M)) (enters_of Tryz.func43 (by kernel_rfl) rfl)
        (fun W d _ hW => by
          have hlow : ∀ k, v2'.ownBlock = some k → w.heap.size + 3 ≤ k := fun k hk => by have := (hown2.lt k hk).1; have := Hsz.out; omega
          have hkW : Kept (fun j => j = w.heap.size + 1 ∨ w.heap.size + 3 ≤ j) wz W := (hk2.mono (fun j _ e => .inl e)).grown hW (fun k hk _ => .inr (hlow k hk))
          have e0 := (hkW.block _ (lt_of_block HB.out.1) (by omega)).trans HB.out.1
          have e1 := (hkW.block _ (lt_of_block HB.out.2) (by omega)).trans HB.out.2
          have hR0 := HR.out w2 hk2
          have hRl := HR.out wz (Kept.refl _ _)
          have hRW : BR3 v0 v1 v2 g W := hRl.kept hkW (fun k hk e => by have := Hlt.out.1 k hk; omega) (fun k hk e => by have := Hlt.out.2.1 k hk; omega) (fun k hk e => by have := Hlt.out.2.2 k hk; omega)
          have hmW : MHas W (w.heap.size + 1) M := by
            have h2 : MHas w2 (w.heap.size + 1) M := Hmh.out.pure hp2
            obtain ⟨m, h3, h4⟩ := h2
            exact ⟨m, h3.same (hW.block _ h3.lt (fun e => by have := hlow _ e.symm; omega)), h4⟩
          exact lacks1_any v0 v1 v2 g M d U (w.heap.size + 1 + 1) w.heap.size (w.heap.size + 1) W hRW Hg.out HU.out hmW (cell_of_block e1 0) (cell_of_block e0 0) (cell_of_block e0 1) (cell_of_block e0 2)))
      unfold DiP at hd
      have Hp2 := hid hp2
      have Hown2 := hid hown2
      clear hown2 hp2 hk2 x9 x0 x1 x2
      go_wp2_with fail
      refine hd.out.mono ?_
      rintro e w8 ⟨v8, rfl, hown8, hg8⟩
      rw [← hdf.out] at hown8
      have hszz := Hsz.out
      have Hown8 := hid (own_mono hown8 (show w.heap.size ≤ wr.heap.size by omega))
      have Hp8 := hid (show Pure w w8 from by
        have h1 : Kept (fun j => w.heap.size ≤ j) w w2 := ((Pure.kept Hpz.out).trans (Hkp.out.mono (fun j _ e => by omega))).trans (Pure.kept Hp2.out)
        have h2 : Kept (fun j => w.heap.size ≤ j) w w8 := h1.grown hg8 (fun k hk _ => by have := (Hown2.out.lt k hk).1; omega)
        exact h2.below (Nat.le_refl _) (fun j hj e => by omega))
      clear hown8 hg8
      go_wp2
      go_ret
      exact ⟨_, rfl, Hown8.out, Hp8.out⟩
end Go.Proofs.YtcjggofcmjpfnaaGreat

namespace Go.Proofs.YtcjggofcmjpfnaaGreat
open Go.RowKit Go.Maps Go.Shelf Go.Sort

theorem bs_list2 (l : List UInt8) : (bs l).toList = l := ByteArray.toList_mk l
theorem ssame_short {l k : List (List UInt8)} (h : l.length ≠ k.length) : decide (l = k) = false := by simp; exact fun e => h (by rw [e])
theorem ssame_take {l k : List (List UInt8)} {i : Nat} (h : l.take i = k.take i) (h1 : i < l.length) (h2 : i < k.length) (e : l.getD i [] = k.getD i []) : l.take (i + 1) = k.take (i + 1) := by
  rw [take_succ_s l i h1, take_succ_s k i h2, h, e]
theorem ssame_full {l k : List (List UInt8)} (h : l.length = k.length) (e : l.take l.length = k.take l.length) : decide (l = k) = true := by rw [List.take_length, h, List.take_length] at e; simp [e]
theorem ssame_not {l k : List (List UInt8)} {i : Nat} (e : ¬ l.getD i [] = k.getD i []) : decide (l = k) = false := by simp; exact fun h => e (by rw [h])

set_option maxHeartbeats 2000000 in
theorem rstexts_any (v u : Value) (l k : List (List UInt8)) (w : World) (hv : Strs w v l) (hu : Strs w u k) :
    Calls Tryz.prog 15 #[v, u] w fun e w' => e = .returned (.bool (decide (l = k))) ∧ Pure w w' := by
  obtain ⟨a, ca, rfl⟩ := hv.shape
  obtain ⟨b, cb, rfl⟩ := hu.shape
  have h2 : l.length ≤ maxLen := Row.len_le hv
  have h4 : k.length ≤ maxLen := Row.len_le hu
  unfold maxLen at h2 h4
  have Hv := hid hv
  have Hu := hid hu
  clear hv hu
  by_cases hl : l.length = k.length
  · have hne : ((l.length : Int) != (k.length : Int)) = false := by simp [hl]
    have hl1 : l.length ≤ k.length := by omega
    have hl2 : k.length ≤ l.length := by omega
    have Hl := hid hl
    clear hl
    go_enter Tryz.func15, Tryz.ntmps15
    go_wp2
    go_loopw [5] (fun x wr => ∃ i : Nat, i ≤ l.length ∧ x = .int .i64 i ∧ l.take i = k.take i ∧ ∃ n, wr = w.drewN n) (fun x _ => l.length - (RowKit.intOf x).toNat)
    case atStart => exact ⟨0, Nat.zero_le _, rfl, by simp, 0, rfl⟩
    case round =>
      obtain ⟨i, hi, rfl, ht, n, rfl⟩ := hrel
      by_cases hlt : i < l.length
      · have hlk : i < k.length := by omega
        obtain ⟨ba, oa, rfl, _, c0⟩ := Strs.get Hv.out hlt
        obtain ⟨bb, ob, rfl, _, d0⟩ := Strs.get Hu.out hlk
        have Hs := hid (ssame_take ht hlt hlk)
        have Hn := hid (@ssame_not l k i)
        have hlt' : (i : Int) < (l.length : Int) := by omega
        have hlk' : (i : Int) < (k.length : Int) := by omega
        clear ht
        generalize l.getD i [] = x at *
        generalize k.getD i [] = y at *
        by_cases hxy : x = y
        · subst hxy
          have Hs' := hid (Hs.out rfl)
          clear Hs Hn
          generalize bs x = X at *
          have e1 : (X.toList != X.toList) = false := by simp
          go_wp2_with fail
          go_quiet (fail)
          go_wp2
          go_roundw
          case rel => exact ⟨i + 1, by omega, by go_num, Hs'.out, _, rfl⟩
          case measure => simp [RowKit.intOf]; omega
        · have Hf := hid (Hn.out hxy)
          have hb : ((bs x).toList != (bs y).toList) = true := by rw [bs_list2, bs_list2]; simpa using hxy
          have hb2 : ((bs x).toList == (bs y).toList) = false := by rw [bs_list2, bs_list2]; simpa using hxy
          have hb3 : ((bs x).toList = (bs y).toList) = False := by rw [bs_list2, bs_list2]; simpa using hxy
          generalize bs x = X at *
          generalize bs y = Y at *
          clear hxy Hs Hn
          go_wp2_with fail
          go_quiet (fail)
          go_wp2
          go_ret
          exact ⟨ret_bool Hf.out.symm, (pure_drewN _ n).then_ (pure_drewN _ _)⟩
      · have e : i = l.length := by omega
        subst e
        have hlt' : ¬ (l.length : Int) < (l.length : Int) := by omega
        have Hf := hid (ssame_full Hl.out ht)
        clear ht
        go_wp2
        go_ret
        exact ⟨ret_bool Hf.out.symm, pure_drewN _ _⟩
  · have Hf := hid (ssame_short hl)
    have hne : ((l.length : Int) != (k.length : Int)) = true := by simp; omega
    go_enter Tryz.func15, Tryz.ntmps15
    clear hl
    go_wp2
    go_ret
    exact ⟨ret_bool Hf.out.symm, Below.refl _ _⟩

theorem strs_lit_cells (w : World) (s : List UInt8) : ∀ j u, (svs [s])[j]? = some u → (w.alloc (.cells #[.string (bs s)] 9)).cell? ((⟨w.heap.size, 0, none⟩ : Addr).add j) = some u := by
  intro j u hj
  rw [Addr.add_lit, Nat.zero_add, World.cell?_alloc_new]
  simpa [svs] using hj
section
variable {v0 v1 v2 u0 u1 u2 : Value} {g h : Bag} {U V : List Dot} {W : World}
theorem rcnodesG {X : List Dot × List Dot} {m : Nat} (h0 : Dots W v0 X.1) (h1 : Dots W v1 X.2) (sx : Sml m X) (hm : m ≤ 50000) : Calls Tryz.prog 23 #[.agg #[v0, v1]] W fun r w' => ∃ v', r = .returned v' ∧ Ints w' v' (cnodes X.1 X.2) ∧ Pure W w' ∧ ∀ k, v'.rb = some k → W.heap.size ≤ k :=
  rnodes_any v0 v1 X.1 X.2 W h0 h1 (by have := sx.l0; have := sx.l1; omega)
theorem rbytesG (hr : BR3 v0 v1 v2 g W) (hg : BOk U g) (hU : U.length ≤ 10000) : Calls Tryz.prog 29 #[.agg #[v0, v1, v2]] W fun e w' => e = .returned (.string (bs (bagB g))) ∧ Pure W w' := rbbytes_any _ g W hr.at (hg.small hU)
end

set_option maxRecDepth 8000 in
set_option maxHeartbeats 8000000 in
theorem rmarks6_any (v0 v1 v2 : Value) (g : Bag) (U : List Dot) (w : World) (hr : BR3 v0 v1 v2 g w) (hg : BOk U g) (hU : U.length ≤ 400) :
    Calls Tryz.prog 14 #[.agg #[v0, v1, v2]] w (StrsO w (bmarks g)) := by
  obtain ⟨wz, hwz, Hpz, hS⟩ := bbox1 w v0 v1 v2
  have HA := hid (fun W (hW : Pure wz W) => hr.pure (Hpz.out.then_ hW))
  have Hn := hid (rcnodesG (X := g.2) (HA.out wz (Below.refl _ _)).2.1 (HA.out wz (Below.refl _ _)).2.2 hg.sml (show U.length ≤ 50000 by omega))
  have hpt := hid (fun W (hW : Pure wz W) x => rpartG x (HA.out W hW) hg (show U.length ≤ 400 by omega))
  have hby := hid (fun W s0 s1 s2 x (hs : BR3 s0 s1 s2 (bpart g x) W) => (show Calls _ _ _ _ _ from rbytesG hs (hg.part x) (by omega)))
  have hdf := hid (show bmarks g = (cnodes g.2.1 g.2.2).map (bmark g) from rfl)
  have hnl := hid (show (cnodes g.2.1 g.2.2).length ≤ 10000 from by
    have := cnodes_len' g.2.1 g.2.2
    have := hg.sml.l0; have := hg.sml.l1; omega)
  have hbm := hid (fun x => (show bmark g x = bagB (bpart g x) from rfl))
  unfold BagO at hpt
  generalize cnodes g.2.1 g.2.2 = N at *
  clear hr hg
  obtain ⟨f0, f1, f2, _⟩ := hS.out wz (Below.refl _ _)
  rw [hwz] at f0 f1 f2
  have Hsz := hid Hpz.out.size
  obtain ⟨i0, hi, hz0, hz1, hz2⟩ := info_parts infoStr
  go_enter Tryz.func14, Tryz.ntmps14
  go_wp2_with fail
  rw [← hwz]
  clear hwz f0 f1 f2
  refine Hn.out.mono ?_
  rintro e w2 ⟨v2', rfl, hown2, hp2, _⟩
  obtain ⟨a2, c2, rfl⟩ := hown2.shape
  have Hp2 := hid hp2
  have HN := hid (show Ints w2 (.slice a2 N.length c2) N from hown2)
  have Hs2 := hid (show w.heap.size ≤ w2.heap.size from Nat.le_trans Hsz.out Hp2.out.size)
  have hnl' := hnl.out
  clear hown2 hp2 Hn
  go_wp2_with fail
  go_loopw [3, 5] (fun v i wr => ∃ k : Nat, k ≤ N.length ∧ i = .int .i64 k ∧ wr.ownsRow w2.heap.size 9 1 v ((N.take k).map (bmark g)).length (svs ((N.take k).map (bmark g))) ∧ Pure w2 wr) (fun _ i _ => N.length - (RowKit.intOf i).toNat)
  case atStart => exact ⟨0, Nat.zero_le _, rfl, World.ownsRow_nil _ _ _ _, Below.refl _ _⟩
  case round =>
    obtain ⟨k, hk, rfl, hown, hp⟩ := hrel
    by_cases hlt : k < N.length
    · have hlt' : (k : Int) < (N.length : Int) := by omega
      obtain ⟨bn, on, rfl, hbn, hx⟩ := ints_get_j (Row.pure HN.out hp : Ints wr _ N) hlt
      have Hstep := hid (map_take (bmark g) N k hlt)
      have hYl : ((N.take k).map (bmark g)).length ≤ k := by rw [List.length_map, List.length_take]; omega
      generalize (N.take k).map (bmark g) = Y at *
      generalize N.getD k 0 = x at *
      rw [hbm.out x] at Hstep
      have Hp := hid hp
      have Hown := hid (fun W (hW : Pure wr W) => own_pure hown hW)
      obtain ⟨a3, c3, rfl⟩ := own_shape_d hown
      have qa := hid (fun W (hW : Pure wr W) => hpt.out W ((Hp2.out.then_ Hp.out).then_ hW) x)
      have qb := hid (fun W s0 s1 s2 (hs : BR3 s0 s1 s2 (bpart g x) W) => hby.out W s0 s1 s2 x hs)
      generalize bagB (bpart g x) = M at *
      generalize bpart g x = Gx at *
      obtain ⟨f0, f1, f2, _⟩ := hS.out wr (Hp2.out.then_ Hp.out)
      have hlY : Y.length + 1 ≤ 20000 := by omega
      have Hdr := hid (show Pure wr wr.drew from (Below.refl _ _).drew)
      clear hown hp hbn
      go_wp2_with fail
      go_region_law (first
        | (go_simp; go_at_call 21; (with_reducible refine (qa.out _ Hdr.out).mono ?_); rintro e w7 ⟨s0, s1, s2, rfl, h7, hp7, _⟩; have H7 := hid (Hdr.out.then_ hp7); have qb7 := hid (qb.out _ _ _ _ h7); clear h7)
        | (go_simp; go_at_call 29; (refine qb7.out.mono ?_); rintro e w8 ⟨rfl, hp8⟩; have H8 := hid (H7.out.then_ hp8))
        | (refine step_append_own rfl (.tmp 15) (.tmp 23) 38 rfl w2.heap.size 9 i0 (.string ⟨#[]⟩) 1 16 Tryz.underlying38 hi hz0 hz1 hz2 rfl (by decide) (.slice a3 Y.length c3) Y.length (svs Y) (by simp [Act.eval]) (World.ownsRow.alloc (Hown.out w8 H8.out) _) ⟨w8.heap.size, 0, none⟩ 1 1 (svs [M]) (by simp [Act.eval]) rfl (strs_lit_cells w8 M) (svs_one _) (by unfold maxLen; omega) (by omega) (by have := Hp.out.size; have := H8.out.size; simp; omega) ?_; intro v' w' hown' hg'; obtain ⟨a9, c9, rfl⟩ := own_shape_d hown'; have Hown9 := hid hown'; have Hp9 := hid (((Hp.out.then_ H8.out).alloc (by have := Hp.out.size; have := H8.out.size; omega) (.cells #[.string (bs M)] 9)).grown hg' (by have := Hp.out.size; have := H8.out.size; simp; omega) (fun k hk => ((Hown.out w8 H8.out).lt k hk).1)); clear hown' hg'))
      all_goals
        go_wp2
        go_roundw
        (case rel => exact ⟨k + 1, by omega, by go_num, by rw [Hstep.out, svs_append, List.length_append]; exact Hown9.out, Hp9.out⟩)
        (case measure => simp [RowKit.intOf]; omega)
    · have hlt' : ¬ (k : Int) < (N.length : Int) := by omega
      rw [List.take_of_length_le (by omega), ← hdf.out] at hown
      have Hown := hid (own_mono hown Hs2.out)
      have Hp := hid ((Hpz.out.then_ Hp2.out).then_ hp)
      clear hown hp
      go_wp2
      go_ret
      exact ⟨_, rfl, Hown.out, Hp.out⟩
end Go.Proofs.YtcjggofcmjpfnaaGreat

namespace Go.Proofs.YtcjggofcmjpfnaaGreat
open Go.RowKit Go.Maps Go.Shelf Go.Sort

theorem dec_mem_take (o : List UInt8) (M : List (List UInt8)) (m : Nat) (h : m < M.length) : decide (o ∈ M.take (m + 1)) = (decide (o ∈ M.take m) || decide (M.getD m [] = o)) := by
  rw [take_succ_s M m h, Bool.eq_iff_iff]
  simp only [decide_eq_true_eq, Bool.or_eq_true, List.mem_append, List.mem_singleton]
  exact or_congr Iff.rfl eq_comm
theorem marks_get (g : Bag) (k : Nat) (h : k < (cnodes g.2.1 g.2.2).length) : (bmarks g).getD k [] = bmark g ((cnodes g.2.1 g.2.2).getD k 0) := by
  unfold bmarks; simp [List.getD, h]

set_option maxRecDepth 8000 in
set_option maxHeartbeats 8000000 in
theorem rlacks6_any (v0 v1 v2 v : Value) (g : Bag) (M : List (List UInt8)) (U : List Dot) (w : World) (hr : BR3 v0 v1 v2 g w) (hg : BOk U g) (hU : U.length ≤ 400) (hv : Strs w v M) :
    Calls Tryz.prog 19 #[.agg #[v0, v1, v2], v] w (IntsO w (blacks g M)) := by
  obtain ⟨av, cv, rfl⟩ := hv.shape
  have hMl : M.length ≤ maxLen := Row.len_le hv
  unfold maxLen at hMl
  obtain ⟨wz, hwz, Hpz, hS⟩ := bbox1 w v0 v1 v2
  have HA := hid (fun W (hW : Pure wz W) => hr.pure (Hpz.out.then_ hW))
  have HM := hid (fun W (hW : Pure wz W) => (show Strs W _ M from Row.pure hv (Hpz.out.then_ hW)))
  have Hn := hid (rcnodesG (X := g.2) (HA.out wz (Below.refl _ _)).2.1 (HA.out wz (Below.refl _ _)).2.2 hg.sml (show U.length ≤ 50000 by omega))
  have Hmk := hid (fun W (hW : Pure wz W) => rmarks6_any v0 v1 v2 g U W (HA.out W hW) hg hU)
  have hdf := hid (show blacks g M = (cnodes g.2.1 g.2.2).filter (fun x => !decide (bmark g x ∈ M)) from rfl)
  have hml := hid (show (bmarks g).length = (cnodes g.2.1 g.2.2).length from by unfold bmarks; rw [List.length_map])
  have hmg := hid (marks_get g)
  have hnl := hid (show (cnodes g.2.1 g.2.2).length ≤ 10000 from by
    have := cnodes_len' g.2.1 g.2.2
    have := hg.sml.l0; have := hg.sml.l1; omega)
  unfold StrsO at Hmk
  generalize cnodes g.2.1 g.2.2 = N at *
  generalize bmarks g = O at *
  clear hr hg hv
  obtain ⟨f0, f1, f2, _⟩ := hS.out wz (Below.refl _ _)
  rw [hwz] at f0 f1 f2
  have Hsz := hid Hpz.out.size
  go_enter Tryz.func19, Tryz.ntmps19
  go_wp2_with fail
  rw [← hwz]
  clear hwz f0 f1 f2
  refine Hn.out.mono ?_
  rintro e w2 ⟨v2', rfl, hown2, hp2, _⟩
  obtain ⟨a2, c2, rfl⟩ := hown2.shape
  have Hp2 := hid hp2
  have HN2 := hid (show Ints w2 (.slice a2 N.length c2) N from hown2)
  obtain ⟨f0, f1, f2, _⟩ := hS.out w2 hp2
  clear hown2 hp2 Hn
  go_wp2_with fail
  refine (Hmk.out w2 Hp2.out).mono ?_
  rintro e w3 ⟨v3', rfl, hown3, hp3⟩
  obtain ⟨a3, c3, rfl⟩ := own_shape_d hown3
  have Hp3 := hid (Hp2.out.then_ hp3)
  have HN := hid (show Ints w3 (.slice a2 N.length c2) N from Row.pure HN2.out hp3)
  have HO := hid (show Strs w3 (.slice a3 O.length c3) O from Row.of_own hown3)
  have HM3 := hid (HM.out w3 Hp3.out)
  have Hs3 := hid (show w.heap.size ≤ w3.heap.size from Nat.le_trans Hsz.out Hp3.out.size)
  have hnl' := hnl.out
  clear hown3 hp3 f0 f1 f2 Hmk HA HM HN2 Hp2 hS
  go_wp2_with fail
  go_loopw [5, 8, 9, 10] (fun v i _ _ wr => ∃ k : Nat, k ≤ N.length ∧ i = .int .i64 k ∧ wr.ownsRow w3.heap.size 3 1 v ((N.take k).filter (fun x => !decide (bmark g x ∈ M))).length (((N.take k).filter (fun x => !decide (bmark g x ∈ M))).map (Value.int .i64)) ∧ Pure w3 wr) (fun _ i _ _ _ => N.length - (RowKit.intOf i).toNat)
  case atStart => exact ⟨0, Nat.zero_le _, rfl, World.ownsRow_nil _ _ _ _, Below.refl _ _⟩
  case round =>
    obtain ⟨k, hk, rfl, hown, hp⟩ := hrel
    by_cases hlt : k < N.length
    · have hlt' : (k : Int) < (N.length : Int) := by omega
      obtain ⟨bn, on, e2, hbn, hx⟩ := ints_get_j (Row.pure HN.out hp : Ints wr _ N) hlt
      obtain ⟨bo, oo, e3, hbo, hy⟩ := Strs.get (show Strs wr (.slice a3 O.length c3) O from Row.pure HO.out hp) (k := k) (by have := hml.out; omega)
      have hkO : (k : Int) < (O.length : Int) := by have := hml.out; omega
      subst e2
      subst e3
      rw [hmg.out k hlt] at hy
      have Hstep := hid (ifilt_take (fun x => !decide (bmark g x ∈ M)) N k hlt)
      have hYl : ((N.take k).filter (fun x => !decide (bmark g x ∈ M))).length ≤ k := Nat.le_trans (List.length_filter_le _ _) (by rw [List.length_take]; omega)
      generalize (N.take k).filter (fun x => !decide (bmark g x ∈ M)) = Y at *
      generalize N.getD k 0 = x at *
      generalize bmark g x = o at *
      have Hp := hid hp
      have HMr := hid (show Strs wr (.slice av M.length cv) M from Row.pure HM3.out hp)
      have Hown := hid (fun W (hW : Pure wr W) => own_pure hown hW)
      obtain ⟨a5, c5, rfl⟩ := own_shape_d hown
      clear hown hp hbn hbo
      go_wp2_with fail
      go_loopw [9, 10] (fun h j wq => ∃ m : Nat, m ≤ M.length ∧ j = .int .i64 m ∧ h = .bool (decide (o ∈ M.take m)) ∧ ∃ n, wq = wr.drewN n) (fun _ j _ => M.length - (RowKit.intOf j).toNat)
      case atStart => exact ⟨0, Nat.zero_le _, rfl, by simp, 0, rfl⟩
      case round =>
        obtain ⟨m, hm, rfl, rfl, n, rfl⟩ := hrel
        by_cases hmt : m < M.length
        · have hmt' : (m : Int) < (M.length : Int) := by omega
          obtain ⟨bm, om, e4, hbm, hz⟩ := Strs.get HMr.out hmt
          subst e4
          have Hd := hid (dec_mem_take o M m hmt)
          generalize decide (o ∈ M.take m) = B at *
          generalize M.getD m [] = q at *
          cases B with
          | true =>
            go_wp2_with fail
            go_quiet (fail)
            go_wp2
            go_roundw
            case rel => exact ⟨m + 1, by omega, by go_num, by rw [Hd.out]; rfl, _, rfl⟩
            case measure => simp [RowKit.intOf]; omega
          | false =>
            by_cases hq : q = o
            · subst hq
              have e1 : ((bs q).toList == (bs q).toList) = true := by simp
              generalize bs q = X at *
              go_wp2_with fail
              go_quiet (fail)
              go_wp2
              go_roundw
              case rel => exact ⟨m + 1, by omega, by go_num, by rw [Hd.out]; simp, _, rfl⟩
              case measure => simp [RowKit.intOf]; omega
            · have e1 : ((bs q).toList == (bs o).toList) = false := by rw [bs_list2, bs_list2]; simpa using hq
              have e2 : ((bs q).toList = (bs o).toList) = False := by rw [bs_list2, bs_list2]; simpa using hq
              rw [decide_eq_false hq] at Hd
              generalize bs q = X at *
              generalize bs o = Z at *
              clear hq
              go_wp2_with fail
              go_quiet (fail)
              go_wp2
              go_roundw
              case rel => exact ⟨m + 1, by omega, by go_num, by rw [Hd.out]; rfl, _, rfl⟩
              case measure => simp [RowKit.intOf]; omega
        · have hmt' : ¬ (m : Int) < (M.length : Int) := by omega
          rw [List.take_of_length_le (by omega)]
          cases hD : decide (o ∈ M) with
          | true =>
            rw [hD] at Hstep
            clear hD
            go_wp2
            go_roundw
            case rel => exact ⟨k + 1, by omega, by go_num, by rw [Hstep.out]; simpa using Hown.out _ (pure_drewN wr n), Hp.out.then_ (pure_drewN _ _)⟩
            case measure => simp [RowKit.intOf]; omega
          | false =>
            rw [hD] at Hstep
            clear hD
            have hrs := Hp.out.size
            have b4 : w3.heap.size ≤ ((wr.drewN n).alloc (.cells #[.int .i64 x] 3)).heap.size := by simp; omega
            go_wp2_with (at_builtin; refine wpList_append_ints1 rfl _ _ rfl w3.heap.size _ Y Y.length rfl ((Hown.out _ (pure_drewN wr n)).alloc _) _ [x] 1 rfl (ints_lit1 _ x) (by omega) b4 ?_)
            intro v8 w8 hown8 hg8
            have Hown8 := hid hown8
            have hpn := hid (((Hp.out.then_ (pure_drewN wr n)).alloc (by simp; omega) (.cells #[.int .i64 x] 3)).grown hg8 (by simp; omega) (fun k hk => ((Hown.out _ (pure_drewN wr n)).lt k hk).1))
            clear hown8 hg8
            go_wp2
            go_roundw
            case rel => exact ⟨k + 1, by omega, by go_num, by rw [Hstep.out]; simpa using Hown8.out, hpn.out⟩
            case measure => simp [RowKit.intOf]; omega
    · have hlt' : ¬ (k : Int) < (N.length : Int) := by omega
      rw [List.take_of_length_le (by omega), ← hdf.out] at hown
      have Hown := hid (own_mono hown Hs3.out)
      have Hp := hid ((Hpz.out.then_ Hp3.out).then_ hp)
      clear hown hp
      go_wp2
      go_ret
      exact ⟨_, rfl, Hown.out, Hp.out⟩

set_option maxRecDepth 8000 in
set_option maxHeartbeats 4000000 in
theorem rdiffer6_any (v0 v1 v2 u0 u1 u2 : Value) (g h : Bag) (U : List Dot) (w : World) (hr : BR3 v0 v1 v2 g w) (hs : BR3 u0 u1 u2 h w) (hg : BOk U g) (hh : BOk U h) (hU : U.length ≤ 100) :
    Calls Tryz.prog 20 #[.agg #[v0, v1, v2], .agg #[u0, u1, u2]] w (IntsO w (bdiffer g h)) := by
  obtain ⟨wz, hwz, Hpz, hS⟩ := bbox2 w v0 v1 v2 u0 u1 u2
  have HA := hid (fun W (hW : Pure wz W) => hr.pure (Hpz.out.then_ hW))
  have HB := hid (fun W (hW : Pure wz W) => hs.pure (Hpz.out.then_ hW))
  have Hj := hid (rjoinB (X := g.2) (Y := h.2) ⟨(HA.out wz (Below.refl _ _)).2.1, (HA.out wz (Below.refl _ _)).2.2⟩ ⟨(HB.out wz (Below.refl _ _)).2.1, (HB.out wz (Below.refl _ _)).2.2⟩ hg.sml hh.sml (by omega))
  have SJ := hid (hg.sml.jn hh.sml)
  have hpa := hid (fun W (hW : Pure wz W) x => rpartG x (HA.out W hW) hg (by omega))
  have hpb := hid (fun W (hW : Pure wz W) x => rpartG x (HB.out W hW) hh (by omega))
  have hdf := hid (show bdiffer g h = (cnodes (Jn g.2 h.2).1 (Jn g.2 h.2).2).filter (fun x => !decide (bpart g x = bpart h x)) from rfl)
  have hnl := hid (show (cnodes (Jn g.2 h.2).1 (Jn g.2 h.2).2).length ≤ 10000 from by
    have := cnodes_len' (Jn g.2 h.2).1 (Jn g.2 h.2).2
    have := SJ.out.l0; have := SJ.out.l1; omega)
  unfold CtxO at Hj
  clear hr hs hg hh
  have Hsz := hid Hpz.out.size
  obtain ⟨f0, f1, f2, f3, f4, f5, _⟩ := hS.out wz (Below.refl _ _)
  rw [hwz] at f0 f1 f2 f3 f4 f5
  go_enter Tryz.func20, Tryz.ntmps20
  go_wp2_with fail
  rw [← hwz]
  clear hwz f0 f1 f2 f3 f4 f5
  refine Hj.out.mono ?_
  rintro e w1 ⟨j0, j1, rfl, hj, hp1⟩
  have Hn := hid (rcnodesG hj.1 hj.2 SJ.out (by omega))
  have Hp1 := hid hp1
  clear hp1 hj Hj SJ
  generalize cnodes (Jn g.2 h.2).1 (Jn g.2 h.2).2 = N at *
  go_wp2_with fail
  refine Hn.out.mono ?_
  rintro e w2 ⟨v2', rfl, hown2, hp2, _⟩
  obtain ⟨a2, c2, rfl⟩ := hown2.shape
  have Hp2 := hid (Hp1.out.then_ hp2)
  have HN := hid (show Ints w2 (.slice a2 N.length c2) N from hown2)
  have Hs2 := hid (show w.heap.size ≤ w2.heap.size from Nat.le_trans Hsz.out Hp2.out.size)
  have hnl' := hnl.out
  clear hown2 hp2 Hn Hp1
  go_wp2_with fail
  go_loopw [5, 7, 8] (fun v i _ wr => ∃ k : Nat, k ≤ N.length ∧ i = .int .i64 k ∧ wr.ownsRow w2.heap.size 3 1 v ((N.take k).filter (fun x => !decide (bpart g x = bpart h x))).length (((N.take k).filter (fun x => !decide (bpart g x = bpart h x))).map (Value.int .i64)) ∧ Pure w2 wr) (fun _ i _ _ => N.length - (RowKit.intOf i).toNat)
  case atStart => exact ⟨0, Nat.zero_le _, rfl, World.ownsRow_nil _ _ _ _, Below.refl _ _⟩
  case round =>
    obtain ⟨k, hk, rfl, hown, hp⟩ := hrel
    by_cases hlt : k < N.length
    · have hlt' : (k : Int) < (N.length : Int) := by omega
      obtain ⟨bn, on, rfl, hbn, hx⟩ := ints_get_j (Row.pure HN.out hp : Ints wr _ N) hlt
      have Hstep := hid (show (N.take (k + 1)).filter (fun x => !decide (bpart g x = bpart h x)) = (N.take k).filter (fun x => !decide (bpart g x = bpart h x)) ++ (if (!decide (bpart g (N.getD k 0) = bpart h (N.getD k 0))) = true then [N.getD k 0] else []) from ifilt_take _ N k hlt)
      have hYl : ((N.take k).filter (fun x => !decide (bpart g x = bpart h x))).length ≤ k := Nat.le_trans (List.length_filter_le _ _) (by rw [List.length_take]; omega)
      generalize (N.take k).filter (fun x => !decide (bpart g x = bpart h x)) = Y at *
      generalize N.getD k 0 = x at *
      have Hp := hid hp
      have Hx := hid hx
      have Hown := hid (fun W (hW : Pure wr W) => own_pure hown hW)
      obtain ⟨a3, c3, rfl⟩ := own_shape_d hown
      have hSx : Hid (∀ W, Pure wr W → (W.cell? ⟨w.heap.size, 0, none⟩ = some v0 ∧ W.cell? ⟨w.heap.size, 1, none⟩ = some v1 ∧ W.cell? ⟨w.heap.size, 2, none⟩ = some v2 ∧ W.cell? ⟨w.heap.size + 1, 0, none⟩ = some u0 ∧ W.cell? ⟨w.heap.size + 1, 1, none⟩ = some u1 ∧ W.cell? ⟨w.heap.size + 1, 2, none⟩ = some u2 ∧ W.cell? ⟨bn, on + k, none⟩ = some (.int .i64 x) ∧ Pure wr W)) := fun W hW => by
        obtain ⟨e0, e1, e2, e3, e4, e5, _⟩ := hS.out W (Hp2.out.then_ (Hp.out.then_ hW))
        exact ⟨e0, e1, e2, e3, e4, e5, pat hW Hx.out, hW⟩
      have hS2 : Hid (∀ W : World, (W.cell? ⟨w.heap.size, 0, none⟩ = some v0 ∧ W.cell? ⟨w.heap.size, 1, none⟩ = some v1 ∧ W.cell? ⟨w.heap.size, 2, none⟩ = some v2 ∧ W.cell? ⟨w.heap.size + 1, 0, none⟩ = some u0 ∧ W.cell? ⟨w.heap.size + 1, 1, none⟩ = some u1 ∧ W.cell? ⟨w.heap.size + 1, 2, none⟩ = some u2 ∧ W.cell? ⟨bn, on + k, none⟩ = some (.int .i64 x) ∧ Pure wr W) → Pure wr W) := fun W h => h.2.2.2.2.2.2.2
      have hst := hid (hSx.out wr.drew (Below.refl _ _).drew)
      have qa := hid (fun W (hW : Pure wr W) => hpa.out W (Hp2.out.then_ (Hp.out.then_ hW)) x)
      have qb := hid (fun W (hW : Pure wr W) => hpb.out W (Hp2.out.then_ (Hp.out.then_ hW)) x)
      generalize hGa : bpart g x = Ga at *
      generalize hGb : bpart h x = Gb at *
      clear hGa hGb
      have qs := hid (fun W a0 a1 a2 b0 b1 b2 (ha : BR3 a0 a1 a2 Ga W) (hb : BR3 b0 b1 b2 Gb W) => rsameG ha hb)
      unfold BagO at qa qb
      clear hown hp hbn hx
      go_wp2_with fail
      go_region_held3 (fun W => W.cell? ⟨w.heap.size, 0, none⟩ = some v0 ∧ W.cell? ⟨w.heap.size, 1, none⟩ = some v1 ∧ W.cell? ⟨w.heap.size, 2, none⟩ = some v2 ∧ W.cell? ⟨w.heap.size + 1, 0, none⟩ = some u0 ∧ W.cell? ⟨w.heap.size + 1, 1, none⟩ = some u1 ∧ W.cell? ⟨w.heap.size + 1, 2, none⟩ = some u2 ∧ W.cell? ⟨bn, on + k, none⟩ = some (.int .i64 x) ∧ Pure wr W)
        (first | with_reducible exact hst.out | with_reducible exact hSx.out _ (Pure.then_ (hS2.out _ (by assumption)) (by assumption)))
        ((first
          | (go_at_call 21; (with_reducible refine (qa.out _ (hS2.out _ (by assumption))).mono ?_); rintro e w7 ⟨x0, x1, x2, rfl, h7, hp7, _⟩)
          | (go_at_call 21; (with_reducible refine (qb.out _ (hS2.out _ (by assumption))).mono ?_); rintro e w8 ⟨y0, y1, y2, rfl, h8, hp8, _⟩)
          | (go_at_call 12; (first | (refine (qs.out _ _ _ _ _ _ _ (h7.pure hp8) h8).mono ?_) | (refine (qs.out _ _ _ _ _ _ _ h7 (h8.pure hp7)).mono ?_)); rintro e w9 ⟨rfl, hp9⟩)))
      have H9 := hid (hS2.out w9 (by assumption))
      have hx9 := pat H9.out Hx.out
      generalize decide (Ga = Gb) = D at *
      clear h7 hp7 h8 hp8 hp9 hst hSx hS2 qa qb qs
      have hk9 := H9.out.size
      have hk2 := Hp.out.size
      cases D with
      | true =>
        have hst2 := hid (show (N.take (k + 1)).filter (fun x => !decide (bpart g x = bpart h x)) = Y from by rw [Hstep.out]; simp)
        go_wp2
        go_roundw
        case rel => exact ⟨k + 1, by omega, by go_num, by rw [hst2.out]; exact Hown.out w9 H9.out, Hp.out.then_ H9.out⟩
        case measure => simp [RowKit.intOf]; omega
      | false =>
        have hst2 := hid (show (N.take (k + 1)).filter (fun x => !decide (bpart g x = bpart h x)) = Y ++ [x] from by rw [Hstep.out]; simp)
        have b4 : w2.heap.size ≤ (w9.alloc (.cells #[.int .i64 x] 3)).heap.size := by simp; omega
        go_wp2_with (at_builtin; refine wpList_append_ints1 rfl _ _ rfl w2.heap.size _ Y Y.length rfl ((Hown.out w9 H9.out).alloc _) _ [x] 1 rfl (ints_lit1 w9 x) (by omega) b4 ?_)
        intro v3 w3 hown3 hg3
        have Hown3 := hid hown3
        have hpn := hid (((Hp.out.then_ H9.out).alloc (by omega) _).grown hg3 (by simp; omega) (fun k hk => ((Hown.out w9 H9.out).lt k hk).1))
        clear hown3 hg3
        go_wp2
        go_roundw
        case rel => exact ⟨k + 1, by omega, by go_num, by rw [hst2.out]; simpa using Hown3.out, hpn.out⟩
        case measure => simp [RowKit.intOf]; omega
    · have hlt' : ¬ (k : Int) < (N.length : Int) := by omega
      rw [List.take_of_length_le (by omega), ← hdf.out] at hown
      have Hown := hid (own_mono hown Hs2.out)
      have Hp := hid ((Hpz.out.then_ Hp2.out).then_ hp)
      clear hown hp
      go_wp2
      go_ret
      exact ⟨_, rfl, Hown.out, Hp.out⟩
end Go.Proofs.YtcjggofcmjpfnaaGreat

namespace Go.Proofs.YtcjggofcmjpfnaaGreat
open Go.RowKit Go.Maps Go.Shelf Go.Sort

/-- The value's elements lie in a block from base on, somewhere in it; what is behind them is free. -/
def TO (base : Nat) (v : Value) (Y : List (List UInt8)) (w : World) : Prop :=
  (v = .slice none 0 0 ∧ Y = []) ∨ ∃ g o cap cur, v = .slice (some ⟨g, o, none⟩) Y.length cap ∧ base ≤ g ∧ w.heap[g]? = some (.cells cur 9 (0, 0)) ∧ Y.length ≤ cap ∧ cap ≤ maxLen ∧ o + cap ≤ cur.size ∧ ∀ j u, (svs Y)[j]? = some u → cur[o + j]? = some u
theorem TO.nil (base : Nat) (w : World) : TO base (.slice none 0 0) [] w := .inl ⟨rfl, rfl⟩
theorem svs_len (l : List (List UInt8)) : (svs l).length = l.length := by simp [svs]
theorem TO.shape {base : Nat} {v : Value} {Y : List (List UInt8)} {w : World} (h : TO base v Y w) : ∃ a c, v = .slice a Y.length c := by
  rcases h with ⟨rfl, rfl⟩ | ⟨g, o, cap, _, rfl, _⟩
  · exact ⟨_, _, rfl⟩
  · exact ⟨_, _, rfl⟩
theorem TO.lt {base : Nat} {v : Value} {Y : List (List UInt8)} {w : World} (h : TO base v Y w) : ∀ k, v.rb = some k → base ≤ k ∧ k < w.heap.size := by
  rcases h with ⟨rfl, rfl⟩ | ⟨g, o, cap, _, rfl, hb, hg, _⟩
  · intro k hk; simp [Value.rb] at hk
  · intro k hk
    simp only [Value.rb] at hk
    split at hk
    · cases hk
    · cases hk
      exact ⟨hb, lt_of_block hg⟩
theorem TO.strs {base : Nat} {v : Value} {Y : List (List UInt8)} {w : World} (h : TO base v Y w) : Strs w v Y := by
  rcases h with ⟨rfl, rfl⟩ | ⟨g, o, cap, cur, rfl, hb, hg, h1, h2, h3, h4⟩
  · exact Row.nil _ _
  · refine ⟨by rw [svs_len]; omega, _, _, rfl, h1, h2, .inr ⟨g, o, rfl, lt_of_block hg, fun i hi => ?_⟩⟩
    have hl : i < (svs Y).length := by rw [svs_len]; omega
    rw [cell_of_block hg, h4 i _ (List.getElem?_eq_getElem hl), List.getElem?_eq_getElem hl]
theorem TO.pure {base : Nat} {v : Value} {Y : List (List UInt8)} {w w' : World} (h : TO base v Y w) (hp : Pure w w') : TO base v Y w' := by
  rcases h with h | ⟨g, o, cap, cur, e, hb, hg, r⟩
  · exact .inl h
  · exact .inr ⟨g, o, cap, cur, e, hb, (hp.block _ (lt_of_block hg)).trans hg, r⟩
theorem TO.own {base n : Nat} {v : Value} {Y : List (List UInt8)} {w : World} (h : w.ownsRow base 9 1 v n (svs Y)) : TO base v Y w := by
  have e : n = Y.length := by have := h.1; rw [svs_len] at this; omega
  subst e
  rcases h.2 with ⟨rfl, h0⟩ | ⟨g, cap, cur, rfl, hb, hg, h1, h2, h3, h4⟩
  · exact .inl ⟨rfl, List.eq_nil_of_length_eq_zero h0⟩
  · refine .inr ⟨g, 0, cap, cur, rfl, hb, hg, h1, h2, by omega, fun j u hj => ?_⟩
    have hlt : j < Y.length := by have := (List.getElem?_eq_some_iff.1 hj).1; rw [svs_len] at this; exact this
    rw [← h4, List.getElem?_take, if_pos (by omega)] at hj
    rw [Nat.zero_add, ← Array.getElem?_toList]; exact hj
/-- Its tail. -/
theorem TO.tail {base : Nat} {a : Option Addr} {n c : Nat} {Y : List (List UInt8)} {w : World} (h : TO base (.slice a n c) Y w) {k : Nat} (hk : k < Y.length) :
    ∃ v', (∀ W, (Instr.slice 38 (.slice a n c) (some (.int .i64 k)) none none).run Tryz.prog W = .ok v' W) ∧ TO base v' (Y.drop k) w := by
  rcases h with ⟨_, rfl⟩ | ⟨g, o, cap, cur, e, hb, hg, h1, h2, h3, h4⟩
  · simp at hk
  · injection e with e1 e2 e3
    subst e1 e2 e3
    have hsz : ∀ W, (sizeOf 9).run Tryz.prog W = .ok 1 W := fun W => by kernel_rfl
    have hl : (Y.drop k).length = Y.length - k := List.length_drop
    refine ⟨.slice (some ⟨g, o + k, none⟩) (Y.length - k) (c - k), fun W => ?_, .inr ⟨g, o + k, c - k, cur, by rw [hl], hb, hg, by omega, by omega, by omega, fun j u hj => ?_⟩⟩
    · have hte : Tryz.prog.elem 38 = 9 := by simp [Program.elem, Tryz.underlying38]
      have ht' : Tryz.prog.underlying 38 = some (.slice (Tryz.prog.elem 38)) := by rw [hte]; exact Tryz.underlying38
      have hz : ¬ c = k := by omega
      rw [run_slice_l (P := Tryz.prog) (w := W) 38 (some ⟨g, o, none⟩) Y.length c ht' .i64 (k : Int) (by omega) (by omega), hte, hsz]
      simp [sliced, go_sem, hz, Addr.add]
    · have e4 : svs (Y.drop k) = (svs Y).drop k := by simp [svs, List.map_drop]
      rw [e4, List.getElem?_drop] at hj
      rw [Nat.add_assoc]; exact h4 _ _ hj
/-- One text more. -/
theorem TO.app {base : Nat} {v : Value} {Y : List (List UInt8)} {w : World} (h : TO base v Y w) (ty : TypeId) (a : Addr) (c : Nat) (s : List UInt8) (ha : w.cell? (a.add 0) = some (.string (bs s))) (hl : Y.length + 1 ≤ 1000000) (hb : base ≤ w.heap.size) :
    ∃ v' w', (Builtin.append_ #[38, 38] ty #[v, .slice (some a) 1 c]).run Tryz.prog w = .ok v' w' ∧ TO base v' (Y ++ [s]) w' ∧ Kept (fun j => v.rb = some j) w w' := by
  obtain ⟨i0, hi, hz0, hz1, hz2⟩ := info_parts infoStr
  have hnews : ∀ j u, (svs [s])[j]? = some u → w.cell? (a.add j) = some u := fun j u hj => by
    cases j with
    | zero => simpa [svs] using hj ▸ ha
    | succ j => simp [svs] at hj
  rcases h with ⟨rfl, rfl⟩ | ⟨g, o, cap, cur, rfl, hbg, hg, h1, h2, h3, h4⟩
  · obtain ⟨v', w', hr, q1, q2, _⟩ := run_append_own (P := Tryz.prog) w base 38 ty 9 i0 _ 1 16 Tryz.underlying38 hi hz0 hz1 hz2 rfl (by decide) (.slice none 0 0) 0 (svs []) (World.ownsRow_nil _ _ _ _) a 1 c (svs [s]) rfl hnews (svs_one _) (by unfold maxLen; omega) (by omega) hb
    refine ⟨v', w', hr, TO.own q1, Kept.grown (Kept.refl _ _) q2 (fun k hk _ => by simp [Value.ownBlock] at hk)⟩
  · have hsrc : Src Tryz.prog i0.size 38 (.slice (some a) 1 c) 1 (svs [s]) w := by
      rw [hz1]
      exact Src.ofSlice w Tryz.underlying38 a 1 c (svs [s]) rfl hnews (svs_one _)
    by_cases hroom : Y.length + 1 ≤ cap
    · have hr := run_append_room_src (P := Tryz.prog) w 38 38 ty 9 i0 Tryz.underlying38 hi g o Y.length cap (.slice (some a) 1 c) 1 (svs [s]) hsrc hroom
        (fun j hj => by
          rw [cell_of_block hg]
          have : o + Y.length * i0.size + j < cur.size := by rw [hz1]; simp [svs] at hj; omega
          simp [this])
        (fun j hj => free_of_block hg _)
      rw [hz1, Nat.mul_one] at hr
      have e : w.setCells g (o + Y.length) (svs [s]) = w.setCell ⟨g, o + Y.length, none⟩ (.string (bs s)) := rfl
      rw [e] at hr
      have hc0 : ¬ cap = 0 := by omega
      refine ⟨_, _, hr, .inr ⟨g, o, cap, _, by simp, hbg, block_setCell hg _ _, by simpa using hroom, h2, by simpa using h3, fun j u hj => ?_⟩, Kept.setCell (S := fun j => (Value.slice (some ⟨g, o, none⟩) Y.length cap).rb = some j) (Kept.refl _ _) (p := ⟨g, o + Y.length, none⟩) (fun _ => by simp [Value.rb, hc0]) _⟩
      rw [svs_append] at hj
      by_cases hjl : j < Y.length
      · rw [List.getElem?_append_left (by rw [svs_len]; exact hjl)] at hj
        have h5 := h4 j u hj
        rw [Array.getElem?_setIfInBounds_ne (by omega)]; exact h5
      · rw [List.getElem?_append_right (by rw [svs_len]; omega)] at hj
        have hj2 := (List.getElem?_eq_some_iff.1 hj).1
        rw [svs_len, svs_len, List.length_singleton] at hj2
        obtain rfl : j = Y.length := by omega
        rw [svs_len, Nat.sub_self] at hj
        simp only [svs, List.map_cons, List.map_nil, List.getElem?_cons_zero] at hj
        rw [Array.getElem?_setIfInBounds_self_of_lt (by omega)]; exact hj
    · have hn3 : Y.length * i0.size = Y.length := by rw [hz1, Nat.mul_one]
      have hr := run_append_grow (P := Tryz.prog) w 38 ty 9 i0 _ Tryz.underlying38 hi hz0 ⟨g, o, none⟩ Y.length cap (svs Y) (by rw [svs_len, hz1, Nat.mul_one])
        (fun j u hj => by rw [Addr.add_lit, cell_of_block hg]; exact h4 j u hj) a 1 c (svs [s]) (by rw [hz1]; rfl) hnews (by omega) (by omega) (growslice_fits (by omega) (by rw [hz2]; omega))
      have hge := grownCap_ge w (Y.length + 1) cap 9
      have hcm : grownCap w (Y.length + 1) cap 9 ≤ maxLen := grownCap_le_maxLen w (Y.length + 1) cap 9 (by unfold maxLen; omega)
      refine ⟨_, _, hr, .inr ⟨w.heap.size, 0, _, _, by simp, hb, heap_alloc_new w.drew _, by simpa using hge, hcm, ?_, fun j u hj => ?_⟩, Pure.kept (show Pure w _ from ((Below.refl _ _).drew).alloc (Nat.le_refl _) _)⟩
      · simp only [Array.size_append, List.size_toArray, size_zeroCells, svs_len, List.length_singleton]
        have e5 : (Value.string ⟨#[]⟩).cells.size = 1 := rfl
        rw [e5]; omega
      · have hj2 := (List.getElem?_eq_some_iff.1 hj).1
        rw [svs_append] at hj
        rw [Nat.zero_add, Array.getElem?_append_left (by rw [svs_len] at hj2; simp [svs_len] at hj2 ⊢; omega), ← Array.getElem?_toList]
        simpa using hj
theorem wpList_append_to {ops : Array Oper} {rest : List Oper} {o : Oper} {a : Act} {Q : Exit → Act → World → Prop} {w : World} (hgd : o.guard = none) (s x : Operand)
    (ho : o.op = .call { callee := .builtin .append, args := #[s, x], argTypes := #[38, 38] }) (base : Nat) (v : Value) (Y : List (List UInt8)) (hs : a.eval s = v) (h : TO base v Y w)
    (ad : Addr) (c : Nat) (t : List UInt8) (hx : a.eval x = .slice (some ad) 1 c) (hc : w.cell? (ad.add 0) = some (.string (bs t))) (hl : Y.length + 1 ≤ 1000000) (hbase : base ≤ w.heap.size)
    (hK : ∀ v' w', TO base v' (Y ++ [t]) w' → Kept (fun j => v.rb = some j) w w' → wpList Tryz.prog ops Q rest (a.put o.dst v') w') : wpList Tryz.prog ops Q (o :: rest) a w := by
  obtain ⟨v', w', hrun, r1, r2⟩ := h.app o.type ad c t hc hl hbase
  refine wpList_plain hgd fun K hK' => ?_
  unfold Oper.wp
  simp [execOp, ho, resolve, invoke, builtin, hs, hx, hrun, Result.andThen]
  exact hK' _ _ (hK v' w' r1 r2)
end Go.Proofs.YtcjggofcmjpfnaaGreat

