/- Frames, rows of cells and maps keyed by int: what the walks of this seat are stated with. No program is named here. Plain facts on lists and numbers. No program is named here. Rows of elements of several cells: read, appended, cut. ref01's Num, Int, Text. append on a row of the call's own: its block stays, or is a new one. Two moves of a drawn region's walk, with their side conditions found by the way. -/
import Derived.WalkKit
import Derived.Maps.OwnSet
import Derived.Maps.OwnOps
import Derived.Test.YtdlpnhfgjficgaaGreatProg
import Derived.WalkSpells
import Derived.WalkLawsBesides
import Derived.Laws.AppendOwnNone
import Derived.Deep.QuietTactic
import Derived.BigQuiet
import Derived.Laws.IdiomStrings
import Derived.Laws.Concat
import Derived.WalkMore
import Derived.IntWalk
import Derived.Deep.RegionHeld3
namespace Go.Proofs.YtdlpnhfgjficgaaGreat
open Go.RowKit Go.Maps Go.MapKept
open Go.ChangeMaps (setBlock)

/-- What was there when w was, and is not in S, is as it was. -/
structure Kept (S : Nat → Prop) (w w' : World) : Prop where
  os : w'.os = w.os
  tape : w'.tape = w.tape
  output : w'.output = w.output
  size : w.heap.size ≤ w'.heap.size
  block : ∀ k, k < w.heap.size → ¬ S k → w'.heap[k]? = w.heap[k]?

namespace Kept
variable {S T : Nat → Prop} {a b c : World}
theorem refl (S : Nat → Prop) (w : World) : Kept S w w := ⟨rfl, rfl, rfl, Nat.le_refl _, fun _ _ _ => rfl⟩
theorem trans (h : Kept S a b) (k : Kept S b c) : Kept S a c :=
  ⟨k.os.trans h.os, k.tape.trans h.tape, k.output.trans h.output, Nat.le_trans h.size k.size, fun i hi hS => (k.block i (Nat.lt_of_lt_of_le hi h.size) hS).trans (h.block i hi hS)⟩
theorem mono (h : Kept S a b) (hs : ∀ k, k < a.heap.size → S k → T k) : Kept T a b := ⟨h.os, h.tape, h.output, h.size, fun k hk hT => h.block k hk (fun hS => hT (hs k hk hS))⟩
theorem drew (h : Kept S a b) : Kept S a b.drew := ⟨h.os, h.tape, h.output, h.size, h.block⟩
theorem alloc (h : Kept S a b) (o : Obj) : Kept S a (b.alloc o) :=
  h.trans ⟨rfl, rfl, rfl, by simp, fun k hk _ => Below.heap_alloc _ _ _ hk⟩
/-- A store into a block of S, or into a block that is younger than the world that we started with. -/
theorem setCell (h : Kept S a b) {p : Addr} (hp : p.block < a.heap.size → S p.block) (u : Value) : Kept S a (b.setCell p u) :=
  ⟨h.os, h.tape, h.output, by have := h.size; simpa [World.setCell] using this, fun k hk hS => (Below.heap_setCell _ _ _ _ (fun e => hS (by subst e; exact hp hk))).trans (h.block k hk hS)⟩
theorem grown (h : Kept S a b) {row : Option Nat} (hg : b.grownBy c row) (hr : ∀ k, row = some k → k < a.heap.size → S k) : Kept S a c :=
  ⟨hg.os.trans h.os, hg.tape.trans h.tape, hg.output.trans h.output, Nat.le_trans h.size hg.size, fun k hk hS => (hg.block k (Nat.lt_of_lt_of_le hk h.size) (fun e => hS (hr k e.symm hk))).trans (h.block k hk hS)⟩
/-- What follows keeps all that b had but S, where S and what a did not have may be written. -/
theorem then_ (h : Kept S a b) (k : Kept T b c) (hs : ∀ i, i < a.heap.size → T i → S i) : Kept S a c :=
  ⟨k.os.trans h.os, k.tape.trans h.tape, k.output.trans h.output, Nat.le_trans h.size k.size, fun i hi hS => (k.block i (Nat.lt_of_lt_of_le hi h.size) (fun hT => hS (hs i hi hT))).trans (h.block i hi hS)⟩
theorem ofBelow' (h : Below a.heap.size a b) : Kept S a b := ⟨h.os, h.tape, h.output, h.size, fun k hk _ => h.block k hk⟩
theorem below (h : Kept S a b) {B : Nat} (hB : B ≤ a.heap.size) (hs : ∀ k, k < B → ¬ S k) : Below B a b := ⟨h.os, h.tape, h.output, h.size, fun k hk => h.block k (by omega) (hs k hk)⟩
theorem cell (h : Kept S a b) {p : Addr} (hp : p.block < a.heap.size) (hS : ¬ S p.block) : b.cell? p = a.cell? p := World.cell?_of_block (w := a) (h.block _ hp hS)
theorem frozen (h : Kept S a b) {p : Addr} (hp : p.block < a.heap.size) (hS : ¬ S p.block) : b.frozen? p = a.frozen? p := World.frozen?_of_block (w := a) (h.block _ hp hS)
end Kept

/-- Nothing is written but what is new. -/
abbrev Pure (w w' : World) : Prop := Below w.heap.size w w'

theorem hid {p : Prop} (h : p) : Hid p := h

theorem Pure.kept {S : Nat → Prop} {a b : World} (h : Pure a b) : Kept S a b := Kept.ofBelow' h
theorem Pure.then_ {a b c : World} (h : Pure a b) (k : Pure b c) : Pure a c := Below.trans h (k.mono h.size)

/-! ### a block of cells known whole -/
theorem cell_of_block {w : World} {b : Nat} {cs : Array Value} {t : TypeId} {f : Nat × Nat} (h : w.heap[b]? = some (.cells cs t f)) (i : Nat) : w.cell? ⟨b, i, none⟩ = cs[i]? := by
  simp [World.cell?, h]
theorem free_of_block {w : World} {b : Nat} {cs : Array Value} {t : TypeId} (h : w.heap[b]? = some (.cells cs t (0, 0))) (i : Nat) : w.frozen? ⟨b, i, none⟩ = false := by
  simp [World.frozen?, h]
theorem lt_of_block {w : World} {b : Nat} {o : Obj} (h : w.heap[b]? = some o) : b < w.heap.size := (Array.getElem?_eq_some_iff.1 h).1
theorem block_setCell {w : World} {b : Nat} {cs : Array Value} {t : TypeId} {f : Nat × Nat} (h : w.heap[b]? = some (.cells cs t f)) (i : Nat) (v : Value) : (w.setCell ⟨b, i, none⟩ v).heap[b]? = some (.cells (cs.setIfInBounds i v) t f) := by
  simp [World.setCell, Array.getElem?_modify, h]
theorem block_setCell_other {w : World} {b : Nat} {o : Obj} (h : w.heap[b]? = some o) (p : Addr) (hp : p.block ≠ b) (v : Value) : (w.setCell p v).heap[b]? = some o := by
  rw [Below.heap_setCell _ _ _ _ (fun e => hp e.symm)]; exact h
theorem block_alloc_new (w : World) (o : Obj) : (w.alloc o).heap[w.heap.size]? = some o := heap_alloc_new w o
theorem block_alloc_old {w : World} {b : Nat} {o : Obj} (h : w.heap[b]? = some o) (o' : Obj) : (w.alloc o').heap[b]? = some o := by
  rw [Below.heap_alloc _ _ _ (lt_of_block h)]; exact h

/-! ### a slice that reads as n elements of size cells each, the cells xs; its array may be anybody's -/
/-- The block of a slice that has room; of one without none is asked. -/
def _root_.Go.Value.rb : Value → Option Nat
  | .slice (some a) _ cap => if cap = 0 then none else some a.block
  | _ => none
theorem rb_own {v : Value} {k : Nat} (h : v.rb = some k) : v.ownBlock = some k := by
  unfold Value.rb at h
  split at h
  · split at h
    · cases h
    · exact h
  · cases h
def Row (w : World) (v : Value) (n size : Nat) (xs : List Value) : Prop :=
  xs.length = n * size ∧ ∃ a cap, v = .slice a n cap ∧ n ≤ cap ∧ cap ≤ maxLen ∧
    (cap = 0 ∨ ∃ b off, a = some ⟨b, off, none⟩ ∧ b < w.heap.size ∧ ∀ i, i < n * size → w.cell? ⟨b, off + i, none⟩ = xs[i]?)

theorem Row.nil (w : World) (size : Nat) : Row w (.slice none 0 0) 0 size [] := ⟨by simp, none, 0, rfl, Nat.le_refl _, by simp, .inl rfl⟩
theorem Row.shape {w : World} {v : Value} {n size : Nat} {xs : List Value} (h : Row w v n size xs) : ∃ a cap, v = .slice a n cap := by obtain ⟨_, a, cap, e, _⟩ := h; exact ⟨a, cap, e⟩
theorem Row.lt {w : World} {v : Value} {n size : Nat} {xs : List Value} (h : Row w v n size xs) : ∀ k, v.rb = some k → k < w.heap.size := by
  obtain ⟨_, a, cap, rfl, _, _, rfl | ⟨b, off, rfl, hb, _⟩⟩ := h <;> intro k hk
  · cases a <;> simp [Value.rb] at hk
  · simp [Value.rb] at hk
    rw [← hk.2]; exact hb
theorem Row.kept {S : Nat → Prop} {w w' : World} {v : Value} {n size : Nat} {xs : List Value} (h : Row w v n size xs) (hk : Kept S w w') (hS : ∀ k, v.rb = some k → ¬ S k) : Row w' v n size xs := by
  obtain ⟨hl, a, cap, rfl, h1, h2, h3⟩ := h
  refine ⟨hl, a, cap, rfl, h1, h2, ?_⟩
  rcases h3 with h3 | ⟨b, off, rfl, hb, hc⟩
  · exact .inl h3
  · by_cases h0 : cap = 0
    · exact .inl h0
    · exact .inr ⟨b, off, rfl, Nat.lt_of_lt_of_le hb hk.size, fun i hi => (hk.cell (p := ⟨b, off + i, none⟩) hb (hS b (by simp [Value.rb, h0]))).trans (hc i hi)⟩
theorem Row.pure {w w' : World} {v : Value} {n size : Nat} {xs : List Value} (h : Row w v n size xs) (hk : Pure w w') : Row w' v n size xs :=
  h.kept (S := fun _ => False) hk.kept (fun _ _ h => h)
theorem Row.same {w w' : World} {v : Value} {n size : Nat} {xs : List Value} (h : Row w v n size xs) (hk : ∀ k, v.rb = some k → w'.heap[k]? = w.heap[k]?) : Row w' v n size xs := by
  obtain ⟨hl, a, cap, rfl, h1, h2, h3⟩ := h
  refine ⟨hl, a, cap, rfl, h1, h2, ?_⟩
  rcases h3 with h3 | ⟨b, off, rfl, hb, hc⟩
  · exact .inl h3
  · by_cases h0 : cap = 0
    · exact .inl h0
    · have e := hk b (by simp [Value.rb, h0])
      refine .inr ⟨b, off, rfl, ?_, fun i hi => (World.cell?_of_block (w := w) (a := ⟨b, off + i, none⟩) e).trans (hc i hi)⟩
      have : (w'.heap[b]?).isSome = true := by rw [e]; simp [hb]
      simpa using this
theorem Row.len_le {w : World} {v : Value} {n size : Nat} {xs : List Value} (h : Row w v n size xs) : n ≤ maxLen := by
  obtain ⟨_, a, cap, _, h1, h2, _⟩ := h; exact Nat.le_trans h1 h2
theorem Row.of_own {w : World} {base e size : Nat} {v : Value} {n : Nat} {xs : List Value} (h : w.ownsRow base e size v n xs) : Row w v n size xs := by
  obtain ⟨hl, ⟨rfl, rfl⟩ | ⟨g, cap, cur, rfl, hb, hg, h1, h2, h3, h4⟩⟩ := h
  · exact ⟨hl, none, 0, rfl, Nat.le_refl _, Nat.zero_le _, .inl rfl⟩
  · refine ⟨hl, some ⟨g, 0, none⟩, cap, rfl, h1, h2, .inr ⟨g, 0, rfl, lt_of_block hg, fun i hi => ?_⟩⟩
    rw [Nat.zero_add, cell_of_block hg, ← h4, List.getElem?_take, if_pos hi]
    simp

theorem own_mono {w : World} {base base' e size : Nat} {v : Value} {n : Nat} {xs : List Value} (h : w.ownsRow base e size v n xs) (hb : base' ≤ base) : w.ownsRow base' e size v n xs := by
  obtain ⟨hl, h | ⟨g, cap, cur, rfl, hg, r⟩⟩ := h
  · exact ⟨hl, .inl h⟩
  · exact ⟨hl, .inr ⟨g, cap, cur, rfl, Nat.le_trans hb hg, r⟩⟩
theorem own_ne {w : World} {base e size : Nat} {v : Value} {n : Nat} {xs : List Value} (h : w.ownsRow base e size v n xs) {b : Nat} (hb : b < base) : v.ownBlock ≠ some b := fun e => by have := (h.lt b e).1; omega

/-- Numbers. -/
abbrev I (x : Int) : Value := .int .i64 x
def Ints (w : World) (v : Value) (l : List Int) : Prop := Row w v l.length 1 (l.map (Value.int .i64))
theorem Ints.cell {w : World} {a : Option Addr} {n cap : Nat} {l : List Int} (h : Ints w (.slice a n cap) l) : n = l.length ∧ n ≤ cap ∧ cap ≤ maxLen ∧ ((l = [] ∧ cap = 0) ∨ ∃ b off, a = some ⟨b, off, none⟩ ∧ b < w.heap.size ∧ ∀ i, i < l.length → w.cell? ⟨b, off + i, none⟩ = some (.int .i64 (l.getD i 0))) := by
  obtain ⟨_, a', cap', e, h1, h2, h3⟩ := h
  cases e
  refine ⟨rfl, h1, h2, ?_⟩
  rcases h3 with rfl | ⟨b, off, rfl, hb, hc⟩
  · exact .inl ⟨List.eq_nil_of_length_eq_zero (by omega), rfl⟩
  · refine .inr ⟨b, off, rfl, hb, fun i hi => ?_⟩
    rw [hc i (by omega)]
    simp [List.getD, hi]
theorem Ints.shape {w : World} {v : Value} {l : List Int} (h : Ints w v l) : ∃ a cap, v = .slice a l.length cap := by
  obtain ⟨_, a, cap, e, _⟩ := h; exact ⟨a, cap, e⟩

/-! ### a map keyed by int -/
/-- Block b is a map; its entries, in the order in which they came: m; an element x lies there as enc x. -/
def IMap {α : Type} (enc : α → Value) (w : World) (b : Nat) (m : List (Int × α)) : Prop :=
  ∃ es clock, w.heap[b]? = some (.map es clock) ∧ Stamped es clock ∧ (∀ p ∈ m, (Lit.int .i64 p.1).wf = true) ∧ es.toList.map (fun x => (x.key, x.val)) = m.map (fun p => (Value.int .i64 p.1, enc p.2))

def mlook {α : Type} (m : List (Int × α)) (k : Int) : Option α := (m.find? (fun p => p.1 == k)).map (·.2)
def mput {α : Type} (m : List (Int × α)) (k : Int) (v : α) : List (Int × α) :=
  match m with
  | [] => [(k, v)]
  | p :: r => if p.1 == k then (k, v) :: r else p :: mput r k v

section
variable {α : Type} {enc : α → Value} {w : World} {b : Nat} {m : List (Int × α)} {P : Program} {t kt e : TypeId}

theorem IMap.made (enc : α → Value) (w : World) : IMap enc (w.alloc (.map #[] 0)) w.heap.size [] :=
  ⟨#[], 0, block_alloc_new _ _, stamped_empty 0, by simp, rfl⟩
theorem IMap.lt (h : IMap enc w b m) : b < w.heap.size := by obtain ⟨es, clock, hb, _⟩ := h; exact lt_of_block hb
theorem IMap.kept {S : Nat → Prop} {w' : World} (h : IMap enc w b m) (hk : Kept S w w') (hS : ¬ S b) : IMap enc w' b m := by
  obtain ⟨es, clock, hb, r⟩ := h
  exact ⟨es, clock, (hk.block b (lt_of_block hb) hS).trans hb, r⟩
theorem IMap.same {w' : World} (h : IMap enc w b m) (hk : w'.heap[b]? = w.heap[b]?) : IMap enc w' b m := by
  obtain ⟨es, clock, hb, r⟩ := h
  exact ⟨es, clock, hk.trans hb, r⟩
theorem IMap.pure {w' : World} (h : IMap enc w b m) (hk : Pure w w') : IMap enc w' b m := h.kept (S := fun _ => False) hk.kept (fun h => h)

theorem IMap.keysOf {es : Array MapEntry} (hk : P.underlying kt = some (.int .i64)) (hw : ∀ p ∈ m, (Lit.int .i64 p.1).wf = true) (he : es.toList.map (fun x => (x.key, x.val)) = m.map (fun p => (Value.int .i64 p.1, enc p.2))) : ∀ x ∈ es.toList, ∃ l, keyOf P kt x.key = some l := by
  intro x hx
  have : (x.key, x.val) ∈ es.toList.map (fun x => (x.key, x.val)) := List.mem_map.2 ⟨x, hx, rfl⟩
  rw [he] at this
  obtain ⟨p, hp, e⟩ := List.mem_map.1 this
  cases e' : x.key <;> simp [e'] at e
  obtain ⟨⟨rfl, rfl⟩, _⟩ := e
  exact ⟨_, keyOf_int_mk hk (hw p hp)⟩

theorem find_assoc : ∀ (es : List MapEntry) (m : List (Int × α)), es.map (fun x => (x.key, x.val)) = m.map (fun p => (Value.int .i64 p.1, enc p.2)) → ∀ (k : Int),
    ((∀ x ∈ es, x.key ≠ .int .i64 k) → m.find? (fun p => p.1 == k) = none) ∧
    (∀ (j : Nat) (x : MapEntry), es[j]? = some x → x.key = .int .i64 k → (es.map (·.key)).Nodup → ∃ v, m.find? (fun p => p.1 == k) = some (k, v) ∧ x.val = enc v)
  | [], [], _, k => ⟨fun _ => rfl, fun j x h => by simp at h⟩
  | [], _ :: _, h, _ => by simp at h
  | _ :: _, [], h, _ => by simp at h
  | x0 :: es, (k0, v0) :: m, h, k => by
    simp only [List.map_cons, List.cons.injEq, Prod.mk.injEq] at h
    obtain ⟨⟨hk0, hv0⟩, hr⟩ := h
    obtain ⟨i1, i2⟩ := find_assoc es m hr k
    constructor
    · intro hne
      have h0 : k0 ≠ k := fun e => hne x0 (by simp) (by rw [hk0, e])
      rw [List.find?_cons_of_neg (by simpa using h0)]
      exact i1 fun x hx => hne x (by simp [hx])
    · intro j x hj hx hnd
      cases j with
      | zero =>
        simp at hj; subst hj
        rw [hk0] at hx
        have e : k0 = k := by simpa using hx
        subst e
        exact ⟨v0, by simp, hv0⟩
      | succ j =>
        simp at hj
        have hnd' := List.nodup_cons.1 (List.map_cons (f := fun x : MapEntry => x.key) ▸ hnd)
        have h0 : k0 ≠ k := fun e => hnd'.1 (by rw [hk0, e, ← hx]; exact List.mem_map.2 ⟨x, List.mem_of_getElem? hj, rfl⟩)
        obtain ⟨v, h1, h2⟩ := i2 j x hj hx hnd'.2
        exact ⟨v, by rw [List.find?_cons_of_neg (by simpa using h0)]; exact h1, h2⟩

/-- 'm[k]'; 'v, ok := m[k]'. -/
theorem IMap.look (h : IMap enc w b m) (hk : P.underlying kt = some (.int .i64)) (ht : P.underlying t = some (.map kt e)) {z : Value} (hz : (zeroValue e).run P w = .ok z w) (k : Int) (hw : (Lit.int .i64 k).wf = true) (c : Bool) :
    (Instr.lookup t (.map (some b)) (.int .i64 k) c).run P w = .ok (if c then .tuple #[((mlook m k).map enc).getD z, .bool (mlook m k).isSome] else ((mlook m k).map enc).getD z) w := by
  obtain ⟨es, clock, hb, hst, hwf, he⟩ := h
  have K : Keyed P kt := int_keyed hk
  have hkey := keyOf_int_mk hk hw
  obtain ⟨f1, f2⟩ := find_assoc es.toList m he k
  rcases K.find w hkey es.toList (IMap.keysOf hk hwf he) with ⟨h1, h2⟩ | ⟨j, e0, h1, h2, h3⟩
  · have hn := f1 h2
    simp [Instr.lookup, run_underlying ht, MapKept.run_getObj_map hb, K.check w _ hkey, h1, hz, Result.andThen, mlook, hn]
  · obtain ⟨v, hv, hx⟩ := f2 j e0 h2 h3 hst.2.2
    simp [Instr.lookup, run_underlying ht, MapKept.run_getObj_map hb, K.check w _ hkey, h1, Result.andThen, mlook, hv, hx]

theorem mput_assoc : ∀ (es : List MapEntry) (m : List (Int × α)), es.map (fun x => (x.key, x.val)) = m.map (fun p => (Value.int .i64 p.1, enc p.2)) → ∀ (k : Int) (v : α),
    ((∀ x ∈ es, x.key ≠ .int .i64 k) → mput m k v = m ++ [(k, v)]) ∧
    (∀ (j : Nat) (x : MapEntry), es[j]? = some x → x.key = .int .i64 k → (es.map (·.key)).Nodup → mput m k v = m.set j (k, v) ∧ m.length = es.length)
  | [], [], _, k, v => ⟨fun _ => rfl, fun j x h => by simp at h⟩
  | [], _ :: _, h, _, _ => by simp at h
  | _ :: _, [], h, _, _ => by simp at h
  | x0 :: es, (k0, v0) :: m, h, k, v => by
    simp only [List.map_cons, List.cons.injEq, Prod.mk.injEq] at h
    obtain ⟨⟨hk0, hv0⟩, hr⟩ := h
    obtain ⟨i1, i2⟩ := mput_assoc es m hr k v
    have hlen : m.length = es.length := by have := congrArg List.length hr; simpa using this.symm
    constructor
    · intro hne
      have h0 : ¬ (k0 == k) = true := fun e => hne x0 (by simp) (by rw [hk0]; simpa using e)
      simp only [mput, if_neg h0, List.cons_append]
      rw [i1 fun x hx => hne x (by simp [hx])]
    · intro j x hj hx hnd
      cases j with
      | zero =>
        simp at hj; subst hj
        rw [hk0] at hx
        have e : k0 = k := by simpa using hx
        simp [mput, e, hlen]
      | succ j =>
        simp at hj
        have hnd' := List.nodup_cons.1 (List.map_cons (f := fun x : MapEntry => x.key) ▸ hnd)
        have h0 : ¬ (k0 == k) = true := fun e => hnd'.1 (by rw [hk0, show k0 = k by simpa using e, ← hx]; exact List.mem_map.2 ⟨x, List.mem_of_getElem? hj, rfl⟩)
        simp only [mput, if_neg h0, List.set_cons_succ, (i2 j x hj hx hnd'.2).1, List.length_cons, hlen, and_self]

/-- 'm[k] = v'. -/
theorem IMap.put (h : IMap enc w b m) (hk : P.underlying kt = some (.int .i64)) (ht : P.underlying t = some (.map kt e)) (k : Int) (hw : (Lit.int .i64 k).wf = true) (v : α) :
    ∃ w', (Instr.mapUpdate t (.map (some b)) (.int .i64 k) (enc v)).run P w = .ok () w' ∧ IMap enc w' b (mput m k v) ∧ w.grownBy w' (some b) ∧ w'.heap.size = w.heap.size := by
  obtain ⟨es, clock, hb, hst, hwf, he⟩ := h
  have K : Keyed P kt := int_keyed hk
  have hkey := keyOf_int_mk hk hw
  have hlen : m.length = es.size := by have := congrArg List.length he; simpa using this.symm
  obtain ⟨f1, f2⟩ := mput_assoc es.toList m he k v
  have hblk : ∀ o : Obj, w.grownBy (setBlock w b o) (some b) := fun o => ⟨rfl, rfl, rfl, by simp [setBlock], fun i _ hi => ChangeMaps.heap_setBlock_other hb _ (fun e => hi (by rw [e]))⟩
  rcases K.find w hkey es.toList (IMap.keysOf hk hwf he) with ⟨h1, h2⟩ | ⟨j, e0, h1, h2, h3⟩
  · refine ⟨setBlock w b (.map (es.push ⟨.int .i64 k, enc v, clock⟩) (clock + 1)), ?_, ⟨_, _, ChangeMaps.heap_setBlock_same hb _, stamped_push hst h2, ?_, ?_⟩, hblk _, by simp [setBlock]⟩
    · simp [Instr.mapUpdate, run_underlying ht, MapKept.run_getObj_map hb, K.check w _ hkey, h1, MapKept.run_setObj_map _ hb, Result.andThen, setBlock]
    · rw [f1 h2]; intro p hp; rcases List.mem_append.1 hp with hp | hp
      · exact hwf p hp
      · simp at hp; subst hp; exact hw
    · rw [f1 h2]; simp [he]
  · have hj : j < es.size := by have := (List.getElem?_eq_some_iff.1 h2).1; simpa using this
    have hstay := K.stays w hkey
    have hgetj : es[j]? = some e0 := by simpa using h2
    obtain ⟨g1, _⟩ := f2 j e0 h2 h3 hst.2.2
    refine ⟨setBlock w b (.map (es.modify j (fun x => { x with key := .int .i64 k, val := enc v })) clock), ?_, ⟨_, _, ChangeMaps.heap_setBlock_same hb _, stamped_modify hst j _ (fun _ _ => rfl) (fun x _ hx => by rw [hgetj] at hx; cases hx; exact h3.symm), ?_, ?_⟩, hblk _, by simp [setBlock]⟩
    · simp [Instr.mapUpdate, run_underlying ht, MapKept.run_getObj_map hb, K.check w _ hkey, h1, MapKept.run_setObj_map _ hb, Result.andThen, setBlock, hgetj, h3, hstay]
    · rw [g1]; intro p hp
      rcases List.mem_or_eq_of_mem_set hp with hp | rfl
      · exact hwf p hp
      · exact hw
    · rw [g1]
      apply List.ext_getElem?
      intro i
      have hi := congrArg (·[i]?) he
      simp only [List.getElem?_map, Array.getElem?_toList] at hi
      simp only [List.getElem?_map, Array.getElem?_toList, Array.getElem?_modify, List.getElem?_set]
      by_cases hij : j = i
      · subst hij; simp [hj, hlen]
      · simp [hij, hi]

theorem IMap.len (h : IMap enc w b m) (ht : P.underlying t = some (.map kt e)) (ty : TypeId) : (Builtin.len_ #[t] ty #[.map (some b)]).run P w = .ok (.int .i64 m.length) w := by
  obtain ⟨es, clock, hb, _, _, he⟩ := h
  have hlen : m.length = es.size := by have := congrArg List.length he; simpa using this.symm
  simp [Builtin.len_, run_underlying ht, MapKept.run_getObj_map hb, goInt, Result.andThen, hlen]
end

end Go.Proofs.YtdlpnhfgjficgaaGreat

namespace Go.Proofs.YtdlpnhfgjficgaaGreat
open Go.RowKit

theorem ret_int {k : IntKind} {a b : Int} (h : a = b) : Ending.returned (.int k a) = .returned (.int k b) := by rw [h]
theorem ret_bool {a b : Bool} (h : a = b) : Ending.returned (.bool a) = .returned (.bool b) := by rw [h]

theorem take_succ_get (l : List Int) (k : Nat) (h : k < l.length) : l.take (k + 1) = l.take k ++ [l.getD k 0] := by
  rw [List.take_succ_eq_append_getElem h]; simp [List.getD, h]
/-- A set as a map to true. -/
def tr (l : List Int) : List (Int × Bool) := l.map fun x => (x, true)
theorem wf_i64 (x : Int) (h : -9223372036854775808 ≤ x ∧ x ≤ 9223372036854775807) : (Lit.int .i64 x).wf = true := WalkArith.wf_i64 (by omega)
def AllWf (l : List Int) : Prop := ∀ x ∈ l, (Lit.int .i64 x).wf = true
theorem AllWf.get {l : List Int} (h : AllWf l) {k : Nat} (hk : k < l.length) : (Lit.int .i64 (l.getD k 0)).wf = true := h _ (by simp [List.getD, hk])
theorem info_parts {P : Program} {e : TypeId} {z : Value} {s b : Nat} (h : (P.info? e).map (fun i => (i.zero, i.size, i.bytes)) = some (some z, s, b)) : ∃ i, P.info? e = some i ∧ i.zero = some z ∧ i.size = s ∧ i.bytes = b := by
  cases hi : P.info? e with
  | none => simp [hi] at h
  | some i => simp [hi] at h; exact ⟨i, rfl, h.1, h.2.1, h.2.2⟩
end Go.Proofs.YtdlpnhfgjficgaaGreat

namespace Go.Proofs.YtdlpnhfgjficgaaGreat
open Go.RowKit Go.Maps

theorem pure_drewN (w : World) (n : Nat) : Pure w (w.drewN n) := ⟨rfl, rfl, rfl, Nat.le_refl _, fun _ _ => rfl⟩

theorem Row.elem {w : World} {a : Option Addr} {n cap size : Nat} {xs : List Value} (h : Row w (.slice a n cap) n size xs) {i : Nat} (hi : i < n) :
    ∃ b off, a = some ⟨b, off, none⟩ ∧ b < w.heap.size ∧ ∀ j, j < size → w.cell? ⟨b, off + i * size + j, none⟩ = xs[i * size + j]? := by
  obtain ⟨_, a', cap', e, h1, _, h0 | ⟨b, off, e', hb, hc⟩⟩ := h
  · cases e; omega
  · cases e
    refine ⟨b, off, e', hb, fun j hj => ?_⟩
    rw [Nat.add_assoc]
    refine hc _ ?_
    calc i * size + j < i * size + size := by omega
      _ = (i + 1) * size := by rw [Nat.succ_mul]
      _ ≤ n * size := Nat.mul_le_mul_right _ hi

theorem wpList_append_rows {P : Program} {ops : Array Oper} {rest : List Oper} {o : Oper} {a : Act} {Q : Exit → Act → World → Prop} {w : World} (hgd : o.guard = none) (s x : Operand) (t : TypeId)
    (ho : o.op = .call { callee := .builtin .append, args := #[s, x], argTypes := #[t, t] }) (base : Nat) (e : TypeId) (i : TypeInfo) (z : Value) (size bytes : Nat) (ht : P.underlying t = some (.slice e)) (hi : P.info? e = some i) (hz : i.zero = some z)
    (hsize : i.size = size) (hby : i.bytes = bytes) (hzs : z.cells.size = size) (hsz : 0 < size) (hb100 : bytes ≤ 100)
    (v : Value) (n : Nat) (xs : List Value) (hs : a.eval s = v) (hown : w.ownsRow base e size v n xs) (u : Value) (m : Nat) (news : List Value) (hx : a.eval x = u) (hu : Row w u m size news) (h1 : ∀ u ∈ news, u.oneCell' = true) (hlen : n + m ≤ 1000000) (hbase : base ≤ w.heap.size)
    (h : ∀ v' w', w'.ownsRow base e size v' (n + m) (xs ++ news) → w.grownBy w' v.ownBlock → wpList P ops Q rest (a.put o.dst v') w') : wpList P ops Q (o :: rest) a w := by
  obtain ⟨hl, ad, cap, rfl, hnc, hcm, hc⟩ := hu
  cases ad with
  | none =>
    have h0 : cap = 0 := by
      rcases hc with h | ⟨_, _, e, _⟩
      · exact h
      · cases e
    have hm0 : m = 0 := by omega
    subst hm0; subst h0
    have hn0 : news = [] := List.eq_nil_of_length_eq_zero (by simpa using hl)
    subst hn0
    exact wpList_append_own_none hgd s x t ho base e i size ht hi v n xs hs hown hx (h v w (by simpa using hown) (World.grownBy.refl _ _))
  | some ad =>
    refine wpList_append_own _ hgd s x t ho base e i z size bytes ht hi hz hsize hby hzs hsz v n xs hs hown ad m cap news hx hl (fun j u hj => ?_) h1 (by unfold maxLen; omega) ?_ hbase (fun v' w' q1 q2 _ => h v' w' q1 q2)
    · have hjl : j < m * size := by rw [← hl]; exact (List.getElem?_eq_some_iff.1 hj).1
      rcases hc with rfl | ⟨b, off, e', _, hcell⟩
      · have : m = 0 := by omega
        subst this; omega
      · cases e'
        rw [Addr.add_lit, hcell j hjl]; exact hj
    · calc (n + m) * bytes ≤ 1000000 * 100 := Nat.mul_le_mul hlen hb100
        _ ≤ 140737488355328 := by decide

theorem row_pre {w : World} {b off n cap size : Nat} {xs : List Value} (h : Row w (.slice (some ⟨b, off, none⟩) n cap) n size xs) {k : Nat} (hk : k ≤ n) : Row w (.slice (some ⟨b, off, none⟩) k cap) k size (xs.take (k * size)) := by
  obtain ⟨hl, a, cap', e, h1, h2, hc⟩ := h
  cases e
  have hks : k * size ≤ n * size := Nat.mul_le_mul_right _ hk
  refine ⟨by simp; omega, _, _, rfl, by omega, h2, ?_⟩
  rcases hc with h0 | ⟨b', off', e', hb, hcell⟩
  · exact .inl h0
  · cases e'
    refine .inr ⟨b, off, rfl, hb, fun i hi => ?_⟩
    rw [hcell i (by omega), List.getElem?_take, if_pos hi]
theorem row_suf {w : World} {b off n cap size : Nat} {xs : List Value} (h : Row w (.slice (some ⟨b, off, none⟩) n cap) n size xs) {k : Nat} (hk : k ≤ n) : Row w (.slice (some ⟨b, off + k * size, none⟩) (n - k) (cap - k)) (n - k) size (xs.drop (k * size)) := by
  obtain ⟨hl, a, cap', e, h1, h2, hc⟩ := h
  cases e
  have hks : k * size ≤ n * size := Nat.mul_le_mul_right _ hk
  refine ⟨by rw [List.length_drop, hl, Nat.sub_mul], _, _, rfl, by omega, by omega, ?_⟩
  rcases hc with h0 | ⟨b', off', e', hb, hcell⟩
  · left; omega
  · cases e'
    refine .inr ⟨b, off + k * size, rfl, hb, fun i hi => ?_⟩
    rw [Nat.sub_mul] at hi
    rw [Nat.add_assoc, hcell (k * size + i) (by omega), List.getElem?_drop]

/-- A row's head and its tail, taken by the slice's own words. -/
theorem slice_pre_row {P : Program} {t e : TypeId} {size : Nat} (ht : P.underlying t = some (.slice e)) {w : World} {a : Option Addr} {n cap : Nat} {xs : List Value} (h : Row w (.slice a n cap) n size xs) {k : Nat} (hk : k ≤ n) (hp : a = none ∨ ∃ b o, a = some ⟨b, o, none⟩) (hsz : ∀ W, (sizeOf e).run P W = .ok size W) :
    ∃ v1, (∀ W, (Instr.slice t (.slice a n cap) none (some (.int .i64 k)) none).run P W = .ok v1 W) ∧ ∀ W, Row W (.slice a n cap) n size xs → Row W v1 k size (xs.take (k * size)) := by
  obtain ⟨hl, a', cap', e', h1, h2, hc⟩ := h
  cases e'
  have hte : P.elem t = e := by simp [Program.elem, ht]
  have ht' : P.underlying t = some (.slice (P.elem t)) := by rw [hte]; exact ht
  refine ⟨.slice a k cap, fun W => ?_, fun W hW => ?_⟩
  · rw [run_slice_h (P := P) (w := W) t a n cap ht' .i64 (k : Int) (by omega) (by omega), hte, hsz]
    rcases hp with rfl | ⟨b, o, rfl⟩
    · simp [sliced, go_sem]
    · by_cases hz : cap = 0
      · simp [sliced, go_sem, hz]
      · simp [sliced, go_sem, Addr.add]
  · rcases hp with rfl | ⟨b, o, rfl⟩
    · rcases hc with rfl | ⟨_, _, e, _⟩
      · obtain rfl : n = 0 := by omega
        obtain rfl : k = 0 := by omega
        exact ⟨by simp, none, 0, rfl, by omega, by simp, .inl rfl⟩
      · cases e
    · exact row_pre hW hk
theorem slice_suf_row {P : Program} {t e : TypeId} {size : Nat} (ht : P.underlying t = some (.slice e)) {w : World} {a : Option Addr} {n cap : Nat} {xs : List Value} (h : Row w (.slice a n cap) n size xs) {k : Nat} (hk : k ≤ n) (hp : a = none ∨ ∃ b o, a = some ⟨b, o, none⟩) (hsz : ∀ W, (sizeOf e).run P W = .ok size W) :
    ∃ v1, (∀ W, (Instr.slice t (.slice a n cap) (some (.int .i64 k)) none none).run P W = .ok v1 W) ∧ ∀ W, Row W (.slice a n cap) n size xs → Row W v1 (n - k) size (xs.drop (k * size)) := by
  have hr := h
  obtain ⟨hl, a', cap', e', h1, h2, hc⟩ := h
  cases e'
  have hte : P.elem t = e := by simp [Program.elem, ht]
  have ht' : P.underlying t = some (.slice (P.elem t)) := by rw [hte]; exact ht
  rcases hp with rfl | ⟨b, o, rfl⟩
  · rcases hc with rfl | ⟨_, _, e, _⟩
    · obtain rfl : n = 0 := by omega
      obtain rfl : k = 0 := by omega
      obtain rfl : xs = [] := List.eq_nil_of_length_eq_zero (by simpa using hl)
      refine ⟨.slice none 0 0, fun W => ?_, fun W _ => ⟨by simp, none, 0, rfl, by omega, by simp, .inl rfl⟩⟩
      refine Eq.trans (run_slice_l (P := P) (w := W) t none 0 0 ht' .i64 (0 : Int) (by omega) (by omega)) ?_
      rw [hte, hsz]
      simp [sliced, go_sem]
    · cases e
  · by_cases hz : cap = k
    · obtain rfl : cap = n := by omega
      subst hz
      refine ⟨.slice (some ⟨b, o, none⟩) 0 0, fun W => ?_, fun W _ => ⟨by simp; omega, some ⟨b, o, none⟩, 0, by simp, by omega, by simp, .inl rfl⟩⟩
      rw [run_slice_l (P := P) (w := W) t (some ⟨b, o, none⟩) cap cap ht' .i64 (cap : Int) (by omega) (by omega), hte, hsz]
      simp [sliced, go_sem]
    · refine ⟨.slice (some ⟨b, o + k * size, none⟩) (n - k) (cap - k), fun W => ?_, fun W hW => row_suf hW hk⟩
      rw [run_slice_l (P := P) (w := W) t (some ⟨b, o, none⟩) n cap ht' .i64 (k : Int) (by omega) (by omega), hte, hsz]
      simp [sliced, go_sem, hz, Addr.add]
end Go.Proofs.YtdlpnhfgjficgaaGreat

namespace Go.Proofs.YtdlpnhfgjficgaaGreat
open Go.RowKit Go.Maps

/-- Bytes as a string. -/
def bs (l : List UInt8) : ByteArray := ⟨l.toArray⟩
theorem bs_size (l : List UInt8) : (bs l).size = l.length := by simp [bs, ByteArray.size]
theorem bs_append (l k : List UInt8) : bs l ++ bs k = bs (l ++ k) := ByteArray.mk_append_mk _ _

/-- A number's bytes. -/
def numAcc (n : Nat) (acc : List UInt8) : List UInt8 := if h : n < 128 then acc else numAcc (n / 128) (UInt8.ofNat (128 + n / 128 % 128) :: acc)
termination_by n
decreasing_by omega
def num (n : Nat) : List UInt8 := numAcc n [UInt8.ofNat (n % 128)]
theorem numAcc_small {n : Nat} (h : n < 128) (acc : List UInt8) : numAcc n acc = acc := by rw [numAcc]; simp [h]
theorem numAcc_big {n : Nat} (h : ¬ n < 128) (acc : List UInt8) : numAcc n acc = numAcc (n / 128) (UInt8.ofNat (128 + n / 128 % 128) :: acc) := by rw [numAcc]; simp [h]

theorem numAcc_len : ∀ (k n : Nat) (acc : List UInt8), n < 128 ^ (k + 1) → (numAcc n acc).length ≤ acc.length + k
  | 0, n, acc, h => by rw [numAcc_small (by simpa using h)]; omega
  | k + 1, n, acc, h => by
    by_cases hn : n < 128
    · rw [numAcc_small hn]; omega
    · rw [numAcc_big hn]
      have := numAcc_len k (n / 128) (UInt8.ofNat (128 + n / 128 % 128) :: acc) (by rw [Nat.div_lt_iff_lt_mul (by decide), ← Nat.pow_succ]; exact h)
      rw [List.length_cons] at this; omega
theorem num_len (n : Nat) (h : n < 18446744073709551616) : (num n).length ≤ 10 := by
  have := numAcc_len 9 n [UInt8.ofNat (n % 128)] (by omega)
  simpa [num] using this
theorem conv1 (w : World) (x : Nat) (y : Int) (hx : x < 256) (hy : y = (x : Int)) :
    (convert 88 9 (.slice (some ⟨w.heap.size, 0, none⟩) 1 1)).run Tryz.prog (w.alloc (.cells #[.int .u8 y] 5)) = .ok (.string (bs [UInt8.ofNat x])) (w.alloc (.cells #[.int .u8 y] 5)) := by
  subst hy
  refine run_convert_bytes_back (P := Tryz.prog) _ 88 9 5 ⟨w.heap.size, 0, none⟩ 1 [UInt8.ofNat x] Tryz.underlying88 Tryz.underlying5 Tryz.underlying9 (fun j hj => ?_)
  have : j = 0 := by simpa using hj
  subst this
  simp [Addr.add, UInt8.toNat_ofNat', Nat.mod_eq_of_lt hx]
theorem acc_short {l m n : Nat} (h : 2 ^ l * m ≤ 2 * n) (hm : 1 ≤ m) (hn : n < 18446744073709551616) : l ≤ 64 := by
  have h1 : 2 ^ l ≤ 2 * n := Nat.le_trans (Nat.le_mul_of_pos_right _ hm) h
  have h2 : 2 ^ l < 2 ^ 65 := Nat.lt_of_le_of_lt h1 (by omega)
  have := (Nat.pow_lt_pow_iff_right (by decide : 1 < 2)).1 h2
  omega
theorem acc_step {l m n : Nat} (h : 2 ^ l * m ≤ 2 * n) : 2 ^ (l + 1) * (m / 128) ≤ 2 * n := by
  have : 2 ^ (l + 1) * (m / 128) ≤ 2 ^ l * m := by
    rw [Nat.pow_succ, Nat.mul_assoc]
    exact Nat.mul_le_mul_left _ (by omega)
  omega

set_option maxRecDepth 8000 in
set_option maxHeartbeats 1000000 in
theorem rnum_any (n : Nat) (w : World) (hn : n < 18446744073709551616) :
    Calls Tryz.prog 124 #[.int .u64 n] w fun e w' => e = .returned (.string (bs (num n))) ∧ Pure w w' := by
  have hc := fun W => conv1 W (n % 128) ((n : Int) % 128) (by omega) (by omega)
  have Hn := hid hn
  clear hn
  go_enter Tryz.func124, Tryz.ntmps124
  go_wp2
  clear hc
  go_loopw [0, 3] (fun v0 v3 wr => ∃ (m : Nat) (acc : List UInt8), v0 = .int .u64 m ∧ v3 = .string (bs acc) ∧ numAcc m acc = num n ∧ m ≤ n ∧ 2 ^ acc.length * m ≤ 2 * n ∧ Pure w wr) (fun v0 _ _ => (RowKit.intOf v0).toNat)
  case atStart => exact ⟨n, _, rfl, rfl, rfl, Nat.le_refl _, by simp, (Below.refl _ _).alloc (Nat.le_refl _) _⟩
  case round =>
    obtain ⟨m, acc, rfl, rfl, hacc, hm, hlen, hp⟩ := hrel
    by_cases hlt : m < 128
    · have hlt' : ¬ (128 : Int) ≤ (m : Int) := by omega
      have Hacc := hid ((numAcc_small hlt acc).symm.trans hacc)
      have Hp := hid hp
      clear hacc hlen hp
      go_wp2
      go_ret
      exact ⟨congrArg (fun l => Ending.returned (.string (bs l))) Hacc.out, Hp.out⟩
    · have hlt' : (128 : Int) ≤ (m : Int) := by omega
      have hshort := acc_short hlen (by omega) Hn.out
      have Hlen := hid (acc_step hlen)
      have Hacc := hid ((numAcc_big hlt acc).symm.trans hacc)
      have Hp := hid hp
      obtain ⟨k, hk⟩ : ∃ k, k = m / 128 := ⟨_, rfl⟩
      rw [← hk] at Hlen Hacc
      have hn' := Hn.out
      have hw1 : IntKind.u64.wrap ((m : Int) / 128) = (k : Int) := by rw [IntWalk.u64_in _ (by omega)]; omega
      have hw2 : IntKind.u64.wrap (128 + (k : Int) % 128) = 128 + (k : Int) % 128 := IntWalk.u64_in _ (by omega)
      have hw3 : (128 + (k : Int) % 128) % 256 = 128 + (k : Int) % 128 := by omega
      have hkm : k < m := by omega
      have hc := fun W => conv1 W (128 + k % 128) (128 + (k : Int) % 128) (by omega) (by omega)
      generalize UInt8.ofNat (128 + k % 128) = b at *
      have hns : ¬ 9223372036854775807 < (bs [b]).size + (bs acc).size := by rw [bs_size, bs_size]; simp; omega
      clear hn' hk
      clear hacc hlen hp
      go_wp2
      go_roundw
      case rel => exact ⟨k, b :: acc, by go_num, by rw [bs_append]; rfl, Hacc.out, by omega, by rw [List.length_cons]; exact Hlen.out, Hp.out.alloc Hp.out.size _⟩
      case measure => simp [RowKit.intOf]; omega

set_option maxHeartbeats 1000000 in
theorem rint_any (n : Int) (w : World) (h0 : 0 ≤ n) (hn : n < 9223372036854775808) :
    Calls Tryz.prog 61 #[.int .i64 n] w fun e w' => e = .returned (.string (bs (num n.toNat))) ∧ Pure w w' := by
  obtain ⟨k, rfl⟩ : ∃ k : Nat, n = (k : Int) := ⟨n.toNat, by omega⟩
  have hm := hid (rnum_any k w (by omega))
  have hwr : IntKind.u64.wrap (k : Int) = (k : Int) := IntWalk.u64_in _ (by omega)
  have h0' : ¬ (k : Int) < 0 := by omega
  have hmod : (k : Int) % 18446744073709551616 = (k : Int) := by omega
  clear h0 hn
  go_enter Tryz.func61, Tryz.ntmps61
  go_wp2_with (go_at_call 124; refine hm.out.mono ?_; rintro e w' ⟨rfl, hp⟩; have Hp := hid hp; clear hp)
  go_ret
  exact ⟨by simp, Hp.out⟩

set_option maxHeartbeats 1000000 in
theorem rtext_any (s : List UInt8) (w : World) (hn : s.length ≤ 1000000) :
    Calls Tryz.prog 132 #[.string (bs s)] w fun e w' => e = .returned (.string (bs (num s.length ++ s))) ∧ Pure w w' := by
  have hm := hid (rnum_any s.length w (by omega))
  have hsz := bs_size s
  have hmod : (s.length : Int) % 18446744073709551616 = (s.length : Int) := by omega
  have hbig := num_len s.length (by omega)
  have hns : ¬ 9223372036854775807 < (bs (num s.length)).size + (bs s).size := by rw [bs_size, bs_size]; omega
  have happ := hid (bs_append (num s.length) s)
  clear hn
  generalize bs (num s.length) = N at *
  generalize bs s = S at *
  go_enter Tryz.func132, Tryz.ntmps132
  go_wp2_with (go_at_call 124; refine hm.out.mono ?_; rintro e w' ⟨rfl, hp⟩; have Hp := hid hp; clear hp)
  go_ret
  exact ⟨congrArg (fun x => Ending.returned (.string x)) happ.out, Hp.out⟩
end Go.Proofs.YtdlpnhfgjficgaaGreat

namespace Go.Proofs.YtdlpnhfgjficgaaGreat
open Go.RowKit Go.Maps

def FreshOr (w : World) (v v' : Value) : Prop := v'.ownBlock = v.ownBlock ∨ ∃ k, v'.ownBlock = some k ∧ w.heap.size ≤ k

theorem run_append_own2 {P : Program} (w : World) (base : Nat) (t ty e : TypeId) (i : TypeInfo) (z : Value) (size bytes : Nat) (ht : P.underlying t = some (.slice e)) (hi : P.info? e = some i) (hz : i.zero = some z)
    (hsize : i.size = size) (hby : i.bytes = bytes) (hzs : z.cells.size = size) (hsz : 0 < size)
    (v : Value) (n : Nat) (xs : List Value) (hown : w.ownsRow base e size v n xs)
    (a : Addr) (m c : Nat) (news : List Value) (hl : news.length = m * size) (hnews : ∀ j u, news[j]? = some u → w.cell? (a.add j) = some u) (h1 : ∀ u ∈ news, u.oneCell' = true)
    (h63 : n + m ≤ maxLen) (hbytes : (n + m) * bytes ≤ 140737488355328) (hbase : base ≤ w.heap.size) :
    ∃ v' w', (Builtin.append_ #[t, t] ty #[v, .slice (some a) m c]).run P w = .ok v' w' ∧ w'.ownsRow base e size v' (n + m) (xs ++ news) ∧ w.grownBy w' v.ownBlock ∧ FreshOr w v v' := by
  obtain ⟨v', w', hr, h2, h3, _⟩ := run_append_own (P := P) w base t ty e i z size bytes ht hi hz hsize hby hzs hsz v n xs hown a m c news hl hnews h1 h63 hbytes hbase
  refine ⟨v', w', hr, h2, h3, ?_⟩
  have hsmall : n + m ≤ 9223372036854775807 := by simp only [maxLen] at h63; omega
  rcases hown.2 with ⟨rfl, rfl⟩ | ⟨g, cap, cur, rfl, hbg, hg, hnc, hcm, hcs, htake⟩
  · have hx : xs = [] := List.eq_nil_of_length_eq_zero (by simpa using hown.1)
    subst hx
    obtain ⟨v2, w2, hr2, g2, _, _⟩ := run_append_own (P := P) w w.heap.size t ty e i z size bytes ht hi hz hsize hby hzs hsz (.slice none 0 0) 0 [] (World.ownsRow_nil _ _ _ _) a m c news hl hnews h1 h63 hbytes (Nat.le_refl _)
    rw [hr] at hr2
    injection hr2 with e1 _
    subst e1
    rcases g2.2 with ⟨rfl, _⟩ | ⟨g, cap, cur, rfl, hb, _⟩
    · exact .inl rfl
    · exact .inr ⟨g, rfl, hb⟩
  · by_cases hroom : n + m ≤ cap
    · subst hsize
      have hfit : n * i.size + news.length ≤ cur.size := by rw [hl, hcs, ← Nat.add_mul]; exact Nat.mul_le_mul_right _ hroom
      have hr2 := run_append_room (P := P) w t ty e i ht hi g n cap cur hg a m c news hl hnews h1 hroom hfit
      rw [hr] at hr2
      injection hr2 with e1 _
      subst e1
      exact .inl rfl
    · subst hsize
      subst hby
      have holds : ∀ j u, xs[j]? = some u → w.cell? ((⟨g, 0, none⟩ : Addr).add j) = some u := hown.cells (g := g) rfl
      have hr2 := run_append_grow (P := P) w t ty e i z ht hi hz ⟨g, 0, none⟩ n cap xs hown.1 holds a m c news hl hnews (by omega) (by omega) (growslice_fits (by omega) hbytes)
      rw [hr] at hr2
      injection hr2 with e1 _
      subst e1
      exact .inr ⟨w.heap.size, rfl, Nat.le_refl _⟩

theorem wpList_append_rows2 {P : Program} {ops : Array Oper} {rest : List Oper} {o : Oper} {a : Act} {Q : Exit → Act → World → Prop} {w : World} (hgd : o.guard = none) (s x : Operand) (t : TypeId)
    (ho : o.op = .call { callee := .builtin .append, args := #[s, x], argTypes := #[t, t] }) (base : Nat) (e : TypeId) (i : TypeInfo) (z : Value) (size bytes : Nat) (ht : P.underlying t = some (.slice e)) (hi : P.info? e = some i) (hz : i.zero = some z)
    (hsize : i.size = size) (hby : i.bytes = bytes) (hzs : z.cells.size = size) (hsz : 0 < size) (hb100 : bytes ≤ 100)
    (v : Value) (n : Nat) (xs : List Value) (hs : a.eval s = v) (hown : w.ownsRow base e size v n xs) (u : Value) (m : Nat) (news : List Value) (hx : a.eval x = u) (hu : Row w u m size news) (h1 : ∀ u ∈ news, u.oneCell' = true) (hlen : n + m ≤ 1000000) (hbase : base ≤ w.heap.size)
    (h : ∀ v' w', w'.ownsRow base e size v' (n + m) (xs ++ news) → w.grownBy w' v.ownBlock → FreshOr w v v' → wpList P ops Q rest (a.put o.dst v') w') : wpList P ops Q (o :: rest) a w := by
  obtain ⟨hl, ad, cap, rfl, hnc, hcm, hc⟩ := hu
  cases ad with
  | none =>
    have h0 : cap = 0 := by
      rcases hc with h | ⟨_, _, e, _⟩
      · exact h
      · cases e
    have hm0 : m = 0 := by omega
    subst hm0; subst h0
    have hn0 : news = [] := List.eq_nil_of_length_eq_zero (by simpa using hl)
    subst hn0
    exact wpList_append_own_none hgd s x t ho base e i size ht hi v n xs hs hown hx (h v w (by simpa using hown) (World.grownBy.refl _ _) (.inl rfl))
  | some ad =>
    have hnews : ∀ j u, news[j]? = some u → w.cell? (ad.add j) = some u := fun j u hj => by
      have hjl : j < m * size := by rw [← hl]; exact (List.getElem?_eq_some_iff.1 hj).1
      rcases hc with rfl | ⟨b, off, e', _, hcell⟩
      · have : m = 0 := by omega
        subst this; omega
      · cases e'
        rw [Addr.add_lit, hcell j hjl]; exact hj
    have hbytes : (n + m) * bytes ≤ 140737488355328 := by
      calc (n + m) * bytes ≤ 1000000 * 100 := Nat.mul_le_mul hlen hb100
        _ ≤ 140737488355328 := by decide
    obtain ⟨v', w', hrun, r1, r2, r3⟩ := run_append_own2 (P := P) w base t o.type e i z size bytes ht hi hz hsize hby hzs hsz v n xs hown ad m cap news hl hnews h1 (by unfold maxLen; omega) hbytes hbase
    refine wpList_plain hgd fun K hK => ?_
    unfold Oper.wp
    simp [execOp, ho, resolve, invoke, builtin, hs, hx, hrun, Result.andThen]
    exact hK _ _ (h v' w' r1 r2 r3)
end Go.Proofs.YtdlpnhfgjficgaaGreat

namespace Go.Proofs.YtdlpnhfgjficgaaGreat
open Go.RowKit

/-- Operation i, that only reads, is taken first. -/
theorem tkA {P : Program} {md : Region.Mode} {ops : Array Oper} {Q : Exit → Act → World → Prop} {S : World → Prop} {fuel : Nat} {listed : Array Bool} {a : Act} {w : World} (i : Nat) {oi : Oper} {v : Value} {a' : Act} {l' : Array Bool}
    (h : wpAnyH P md ops Q S fuel l' a' w)
    (hi : ops[i]? = some oi := by rfl) (hs : Region.noSelect ops = true := by kernel_rfl) (hf : Region.free md ops listed i = true := by kernel_rfl) (hr : (Region.ready md ops listed).contains i = true := by kernel_rfl)
    (hw : Region.wanted oi (yielded ops a.tmps) = true := by rfl)
    (hv : ∀ w, S w → (execOp a.eval oi).run P w = .ok (.value v) w := by (intro w hSw; (try dsimp only at hSw); (try simp only [List.getElem_toArray, List.getElem_cons_succ, List.getElem_cons_zero]); go_simp; try with_reducible rfl))
    (ha : a.put oi.dst v = a' := by ((try simp only [Act.put, List.setIfInBounds_toArray, List.set_cons_zero, List.set_cons_succ, List.getElem_toArray, List.getElem_cons_succ, List.getElem_cons_zero]); rfl))
    (hl : listed.setIfInBounds i true = l' := by ((try simp only [List.setIfInBounds_toArray, List.set_cons_zero, List.set_cons_succ]); rfl))
    (hQ : ∀ c a w, Q (.panic c) (a.put oi.dst v) w → Q (.panic c) a w := by exact fun _ _ _ h => h) (hS : S w := by assumption) : wpAnyH P md ops Q S (fuel + 1) listed a w := by
  subst ha hl
  exact wpAnyH_take hi hs hf hr hQ (.inl ⟨hw, hv⟩) hS h
/-- Operation i is not run. -/
theorem tkU {P : Program} {md : Region.Mode} {ops : Array Oper} {Q : Exit → Act → World → Prop} {S : World → Prop} {fuel : Nat} {listed : Array Bool} {a : Act} {w : World} (i : Nat) {oi : Oper} {a' : Act} {l' : Array Bool}
    (h : wpAnyH P md ops Q S fuel l' a' w)
    (hi : ops[i]? = some oi := by rfl) (hs : Region.noSelect ops = true := by kernel_rfl) (hf : Region.free md ops listed i = true := by kernel_rfl) (hr : (Region.ready md ops listed).contains i = true := by kernel_rfl)
    (hw : Region.wanted oi (yielded ops a.tmps) = false := by rfl)
    (ha : a.put oi.dst undef = a' := by ((try simp only [Act.put, List.setIfInBounds_toArray, List.set_cons_zero, List.set_cons_succ, List.getElem_toArray, List.getElem_cons_succ, List.getElem_cons_zero]); rfl))
    (hl : listed.setIfInBounds i true = l' := by ((try simp only [List.setIfInBounds_toArray, List.set_cons_zero, List.set_cons_succ]); rfl))
    (hQ : ∀ c a w, Q (.panic c) (a.put oi.dst undef) w → Q (.panic c) a w := by exact fun _ _ _ h => h) (hS : S w := by assumption) : wpAnyH P md ops Q S (fuel + 1) listed a w := by
  subst ha hl
  exact wpAnyH_take hi hs hf hr hQ (.inr ⟨hw, rfl⟩) hS h
end Go.Proofs.YtdlpnhfgjficgaaGreat

