/- The watch in memory; delete of a map keyed by int; New, made, Clock, Waiting, Round, Heard. -/
import Derived.Test.YtlamhobkmknnpaaPeerG
import Derived.Maps.OwnSet
namespace Go.Proofs.Ytlamhobkmknnpaa
open Go.RowKit Go.Maps Go.MapKept
open Go.ChangeMaps (setBlock)

def mdel {α : Type} (m : List (Int × α)) (k : Int) : List (Int × α) := m.filter fun p => !(p.1 == k)
theorem map_erase {α β : Type} (f : α → β) : ∀ (l : List α) (j : Nat), (l.eraseIdx j).map f = (l.map f).eraseIdx j
  | [], _ => rfl
  | _ :: _, 0 => rfl
  | a :: l, j + 1 => by simp [map_erase f l j]
theorem mdel_assoc {α : Type} {enc : α → Value} : ∀ (es : List MapEntry) (m : List (Int × α)), es.map (fun x => (x.key, x.val)) = m.map (fun p => (Value.int .i64 p.1, enc p.2)) → ∀ (k : Int),
    ((∀ x ∈ es, x.key ≠ .int .i64 k) → mdel m k = m) ∧
    (∀ (j : Nat) (x : MapEntry), es[j]? = some x → x.key = .int .i64 k → (es.map (·.key)).Nodup → mdel m k = m.eraseIdx j)
  | [], [], _, k => ⟨fun _ => rfl, fun j x h => by simp at h⟩
  | [], _ :: _, h, _ => by simp at h
  | _ :: _, [], h, _ => by simp at h
  | x0 :: es, (k0, v0) :: m, h, k => by
    simp only [List.map_cons, List.cons.injEq, Prod.mk.injEq] at h
    obtain ⟨⟨hk0, hv0⟩, hr⟩ := h
    obtain ⟨i1, i2⟩ := mdel_assoc es m hr k
    constructor
    · intro hne
      have h0 : (k0 == k) = false := by
        have : k0 ≠ k := fun e => hne x0 (by simp) (by rw [hk0, e])
        simpa using this
      have h1 := i1 fun x hx => hne x (List.mem_cons_of_mem _ hx)
      unfold mdel at h1 ⊢
      simp [h0, h1]
    · intro j x hj hx hnd
      have hnd' := List.nodup_cons.1 (List.map_cons (f := fun x : MapEntry => x.key) ▸ hnd)
      cases j with
      | zero =>
        simp at hj; subst hj
        rw [hk0] at hx
        have e : k0 = k := by simpa using hx
        subst e
        have h1 := i1 fun y hy e => hnd'.1 (by rw [hk0, ← e]; exact List.mem_map.2 ⟨y, hy, rfl⟩)
        unfold mdel at h1 ⊢
        simp [h1]
      | succ j =>
        simp at hj
        have h0 : (k0 == k) = false := by
          have : k0 ≠ k := fun e => hnd'.1 (by rw [hk0, e, ← hx]; exact List.mem_map.2 ⟨x, List.mem_of_getElem? hj, rfl⟩)
          simpa using this
        have h1 := i2 j x hj hx hnd'.2
        unfold mdel at h1 ⊢
        simp [h0, h1]
/-- 'delete(m, k)'. -/
theorem IMap.del {α : Type} {enc : α → Value} {w : World} {b : Nat} {m : List (Int × α)} {P : Program} {t kt e : TypeId} (h : IMap enc w b m) (hk : P.underlying kt = some (.int .i64)) (ht : P.underlying t = some (.map kt e)) (k : Int) (hw : (Lit.int .i64 k).wf = true) (ty : TypeId) :
    ∃ w', (Builtin.delete_ #[t, kt] ty #[.map (some b), .int .i64 k]).run P w = .ok (.tuple #[]) w' ∧ IMap enc w' b (mdel m k) ∧ w.grownBy w' (some b) := by
  obtain ⟨es, clock, hb, hst, hwf, he⟩ := h
  have K : Keyed P kt := int_keyed hk
  have hkey := keyOf_int_mk hk hw
  obtain ⟨f1, f2⟩ := mdel_assoc es.toList m he k
  have hblk : ∀ o : Obj, w.grownBy (setBlock w b o) (some b) := fun o => ⟨rfl, rfl, rfl, by simp [setBlock], fun i _ hi => ChangeMaps.heap_setBlock_other hb _ (fun e => hi (by rw [e]))⟩
  rcases K.find w hkey es.toList (IMap.keysOf hk hwf he) with ⟨h1, h2⟩ | ⟨j, e0, h1, h2, h3⟩
  · refine ⟨setBlock w b (.map es clock), ?_, ⟨_, _, ChangeMaps.heap_setBlock_same hb _, hst, ?_, ?_⟩, hblk _⟩
    · simp [Builtin.delete_, run_underlying ht, MapKept.run_getObj_map hb, K.check w _ hkey, h1, MapKept.run_setObj_map _ hb, Result.andThen, setBlock]
    · rw [f1 h2]; exact hwf
    · rw [f1 h2]; exact he
  · refine ⟨setBlock w b (.map (es.eraseIdxIfInBounds j) clock), ?_, ⟨_, _, ChangeMaps.heap_setBlock_same hb _, stamped_erase hst j, ?_, ?_⟩, hblk _⟩
    · simp [Builtin.delete_, run_underlying ht, MapKept.run_getObj_map hb, K.check w _ hkey, h1, MapKept.run_setObj_map _ hb, Result.andThen, setBlock]
    · intro p hp; exact hwf p (List.mem_filter.1 hp).1
    · rw [f2 j e0 h2 h3 hst.2.2, Array.toList_eraseIdxIfInBounds, map_erase, map_erase, he]
theorem wpList_del {α : Type} (enc : α → Value) {P : Program} {w : World} {ops : Array Oper} {rest : List Oper} {o : Oper} {a : Act} {Q : Exit → Act → World → Prop} (hg : o.guard = none) (mo x : Operand) (t kt : TypeId) (hop : o.op = Op.call { callee := Callee.builtin Builtin.delete, args := #[mo, x], argTypes := #[t, kt] })
    (e : TypeId) (hk : P.underlying kt = some (.int .i64)) (ht : P.underlying t = some (.map kt e)) (b : Nat) (m : List (Int × α))
    (hm : a.eval mo = .map (some b)) (hown : IMap enc w b m) (k : Int) (hw : (Lit.int .i64 k).wf = true) (hx : a.eval x = .int .i64 k)
    (hK : ∀ w', IMap enc w' b (mdel m k) → w.grownBy w' (some b) → wpList P ops Q rest (a.put o.dst (.tuple #[])) w') :
    wpList P ops Q (o :: rest) a w := by
  refine wpList_plain hg fun K' hK' => ?_
  obtain ⟨w', hrun, r1, r2⟩ := hown.del hk ht k hw o.type
  unfold Oper.wp
  simp [execOp, hop, resolve, invoke, builtin, hm, hx, hrun, Result.andThen]
  exact hK' _ _ (hK w' r1 r2)

/-- A watch, as data. -/
structure WS where
  own : Int
  period : Int
  patience : Int
  clock : Int
  due : Int
  waits : List (Int × Int)
  round : List Int
abbrev encI (x : Int) : Value := .int .i64 x
def wcs (S : WS) (mb : Nat) (vr : Value) : Array Value := #[.int .i64 S.own, .int .i64 S.period, .int .i64 S.patience, .int .i64 S.clock, .int .i64 S.due, .map (some mb), vr]
structure WAt (w : World) (b mb : Nat) (vr : Value) (S : WS) : Prop where
  blk : w.heap[b]? = some (.cells #[.int .i64 S.own, .int .i64 S.period, .int .i64 S.patience, .int .i64 S.clock, .int .i64 S.due, .map (some mb), vr] 47 (0, 0))
  map : IMap encI w mb S.waits
  rnd : Ints w vr S.round
  ne : b ≠ mb
  sep : vr.rb ≠ some b
  sepm : vr.rb ≠ some mb
theorem WAt.pure {w w' : World} {b mb : Nat} {vr : Value} {S : WS} (h : WAt w b mb vr S) (hp : Pure w w') : WAt w' b mb vr S :=
  ⟨(hp.block _ (lt_of_block h.blk)).trans h.blk, h.map.pure hp, Row.pure h.rnd hp, h.ne, h.sep, h.sepm⟩
structure WOk (n : Nat) (S : WS) : Prop where
  own : 0 ≤ S.own ∧ S.own ≤ 1000
  period : 1 ≤ S.period ∧ S.period ≤ 1048576
  patience : 1 ≤ S.patience ∧ S.patience ≤ 1048576
  clock : 0 ≤ S.clock ∧ S.clock ≤ 1000000
  waits : ∀ e ∈ S.waits, 0 ≤ e.1 ∧ e.1 ≤ 1000 ∧ 0 ≤ e.2 ∧ e.2 ≤ 1000000
  nd : (S.waits.map (·.1)).Nodup
  len : S.waits.length ≤ n
  round : ∀ x ∈ S.round, 0 ≤ x ∧ x ≤ 1000
  rlen : S.round.length ≤ 1000
end Go.Proofs.Ytlamhobkmknnpaa
