/- slices.Sort at []int, of a slice of the call's own: it holds the same numbers, rising. slices.Sorted(maps.Keys(m)) of a map keyed by int: its keys, rising, in a slice of the call's own. -/
import Derived.Test.YtdlpnhfgjficgaaGreatMPa
import Derived.Test.YtdlpnhfgjficgaaGreatShelf
import Derived.Sort.OwnSortedInts
import Derived.Shelf.SlIterI.Nil
namespace Go.Proofs.YtdlpnhfgjficgaaGreat
open Go.RowKit Go.Maps Go.Sort
def srt (l : List Int) : List Int := l.mergeSort fun x y => decide (x ≤ y)
theorem srt_len (l : List Int) : (srt l).length = l.length := by unfold srt; simp
end Go.Proofs.YtdlpnhfgjficgaaGreat

namespace Go.Proofs.YtdlpnhfgjficgaaGreat
open Go.RowKit Go.Maps Go.Sort Go.Shelf

theorem srt_perm {l k : List Int} (h : l.Perm k) : srt l = srt k := mergeSort_of_perm_i h

/-- How an element reads: it does not matter. -/
def anyR : Value → Option (DataW Unit × List MemPlace) := fun _ => some (.nil, [])

theorem IMap.owns {α : Type} {enc : α → Value} {w : World} {b : Nat} {m : List (Int × α)} {P : Program} {kt : TypeId} (hk : P.underlying kt = some (.int .i64)) (h : IMap enc w b m) (hl : m.length ≤ maxLen) :
    ∃ D : DataW Unit, w.ownsMap P kt anyR b m.length D ∧ (intKeys D).Perm (m.map (·.1)) ∧ Maps.size D = m.length := by
  obtain ⟨es, clock, hb, hst, hwf, he⟩ := h
  have hlen : es.size = m.length := by have := congrArg List.length he; simpa using this
  have hks := IMap.keysOf hk hwf he
  have F : WideElems.Fit P kt anyR es clock := ⟨by omega, hst, fun x hx => by
    obtain ⟨l, hl⟩ := hks x hx
    exact ⟨(l, .nil), by simp [WideElems.rd, hl, anyR]⟩⟩
  refine ⟨_, ⟨es, clock, hb, F, by omega, rfl⟩, ?_, by simp [Maps.size, length_sorted, hlen]⟩
  show (((es.toList.map (WideElems.rg P kt anyR)).foldr DataW.insert []).map fun p => Go.intOf p.1).Perm _
  refine ((WideShapes.sorted_perm (es.toList.map (WideElems.rg P kt anyR))).map _).trans ?_
  have e1 : (es.toList.map (WideElems.rg P kt anyR)).map (fun p => Go.intOf p.1) = m.map (·.1) := by
    rw [List.map_map]
    have hz : ∀ (l : List MapEntry) (k : List (Int × α)), l.map (fun x => (x.key, x.val)) = k.map (fun p => (Value.int .i64 p.1, enc p.2)) → (∀ p ∈ k, (Lit.int .i64 p.1).wf = true) → l.map ((fun p => Go.intOf p.1) ∘ WideElems.rg P kt anyR) = k.map (·.1) := by
      intro l
      induction l with
      | nil => intro k hk' _; cases k with
        | nil => rfl
        | cons _ _ => simp at hk'
      | cons x l ih =>
        intro k hk' hw
        cases k with
        | nil => simp at hk'
        | cons p k =>
          simp only [List.map_cons, List.cons.injEq, Prod.mk.injEq] at hk' ⊢
          refine ⟨?_, ih k hk'.2 (fun q hq => hw q (by simp [hq]))⟩
          have := keyOf_int_mk hk (hw p (by simp))
          simp [WideElems.rg, WideElems.rd, hk'.1.1, this, anyR, Go.intOf]
    exact hz _ _ he hwf
  rw [e1]

/-- slices.Sort's two contracts at the fence that asks nothing. -/
theorem sortsI (m : Nat) : AnyZI.SortsIn Tryz.prog Tryz.sortedI_ren Fence.wide m :=
  ⟨fun blk off cap ss W hH hblk hsz => callsIn_wide.2 (Tryz.slices_Sort_int blk off cap ss W hH hblk hsz),
   fun p cap W => callsIn_wide.2 (Tryz.slices_Sort_int_none p cap W)⟩

theorem keys_call (mb : Option Nat) (W : World) : Calls Tryz.prog 210 #[.map mb] W fun e w' =>
    e = .returned (.func (.func 221) #[] #[.pointer (some ⟨W.heap.size, 0, none⟩)]) ∧ w' = W.alloc (.cells #[.map mb] 204) :=
  callsIn_wide.1 (AnyZI.keys_in Tryz.keysI Fence.wide 5 trivial rfl mb W)

set_option maxHeartbeats 1000000 in
theorem sorted_call {α : Type} (enc : α → Value) (b : Nat) (m : List (Int × α)) (w : World) (h : IMap enc w b m) (hl : m.length ≤ 1000000) :
    Calls Tryz.prog 209 #[.func (.func 221) #[] #[.pointer (some ⟨w.heap.size, 0, none⟩)]] (w.alloc (.cells #[.map (some b)] 204)) fun e w' =>
      ∃ v, e = .returned v ∧ w'.ownsRow w.heap.size 3 1 v (srt (m.map (·.1))).length ((srt (m.map (·.1))).map (Value.int .i64)) ∧ Pure w w' := by
  have hml : m.length ≤ maxLen := by unfold maxLen; omega
  obtain ⟨D, hown, hperm, hsize⟩ := h.owns (P := Tryz.prog) Tryz.underlying3 hml
  have hbl := hown.lt
  have hseq : SeqGives Fence.wide 2 Tryz.prog 221 #[.pointer (some ⟨w.heap.size, 0, none⟩)] encZ (fun ss => ss.Perm (intKeys D)) (Maps.size D) (w.alloc (.cells #[.map (some b)] 204)) :=
    AnyZI.keys_gives (ρ := Tryz.keysI_ren) { Tryz.keysI with } Fence.wide _ trivial rfl (by omega) w.heap.size b m.length D _ (by simp) (by simp) (by
      obtain ⟨es, clock, hb, Ft, hs, hD⟩ := hown
      exact ⟨es, clock, (Below.heap_alloc _ _ b hbl).trans hb, Ft, hs, hD⟩)
  have cS := AnyZI.sorted_in Tryz.sortedI Fence.wide 5 trivial trivial trivial trivial rfl (by omega) (sortsI _) (enters_of Tryz.func220 (by kernel_rfl) rfl) 221 #[.pointer (some ⟨w.heap.size, 0, none⟩)] trivial (enters_of Tryz.func221 (by kernel_rfl) rfl) _ _ (by rw [hsize]; exact hml) (by rw [hsize]; omega) _ hseq
  refine (callsIn_wide.1 cS).mono ?_
  rintro e w' ⟨v, ss, rfl, hS, hrow, _, hb⟩
  have e1 : srt ss = srt (m.map (·.1)) := srt_perm (hS.trans hperm)
  have e2 : ss.length = (srt (m.map (·.1))).length := by rw [← e1, srt_len]
  refine ⟨v, rfl, ?_, ((Below.refl _ w).alloc (Nat.le_refl _) _).trans (hb.mono (by simp))⟩
  rw [← e1, srt_len]
  exact own_mono hrow (by simp)
end Go.Proofs.YtdlpnhfgjficgaaGreat

