/- view.Read. slices.SortFunc of a row of peers by their IDs; slices.SortedFunc(maps.Values(m), ..). view.Join. sift: mark, Marks. bag: Put of the chapter's first message into an empty bag. -/
import Derived.Test.YtdlpnhfgjficgaaGreatMBs
import Derived.Test.YtdlpnhfgjficgaaGreatMVv
import Derived.Test.YtdlpnhfgjficgaaGreatMTx
import Derived.IntWalk
import Derived.Deep.RegionHeld3
import Derived.Test.YtdlpnhfgjficgaaGreatMRg
import Derived.Test.YtdlpnhfgjficgaaGreatMPa
import Derived.Shelf.Spec.SlicesGrow
import Derived.Test.YtdlpnhfgjficgaaGreatShelf
import Derived.Sort.OwnSortedInts
import Derived.Shelf.SlIterI.Nil
import Derived.Test.YtdlpnhfgjficgaaGreatMPe
import Derived.Shelf.SlIterI.Collect
import Derived.Test.YtdlpnhfgjficgaaGreatMX6
import Derived.Test.YtdlpnhfgjficgaaGreatMX7
import Derived.Test.YtdlpnhfgjficgaaGreatMSa
import Derived.Test.YtdlpnhfgjficgaaGreatMBy
import Derived.Test.YtdlpnhfgjficgaaGreatMDot
import Derived.WalkMore
import Derived.Test.YtdlpnhfgjficgaaGreatJG
import Derived.Test.YtdlpnhfgjficgaaGreatMX3
import Derived.Test.YtdlpnhfgjficgaaGreatMQa
import Derived.Test.YtdlpnhfgjficgaaGreatPut
namespace Go.Proofs.YtdlpnhfgjficgaaGreat
open Go.RowKit Go.Maps Go.Shelf

theorem own_append_p {ops : Array Oper} {rest : List Oper} {o : Oper} {a : Act} {Q : Exit → Act → World → Prop} {w : World} (hgd : o.guard = none) (s x : Operand)
    (ho : o.op = .call { callee := .builtin .append, args := #[s, x], argTypes := #[50, 50] }) (base : Nat) (v : Value) (xs : List Pr) (n : Nat) (hs : a.eval s = v)
    (hown : w.ownsRow base 92 3 v n (gvs pcells xs)) (u : Value) (k : List Pr) (m : Nat) (hx : a.eval x = u) (hu : Row w u m 3 (gvs pcells k)) (hlen : n + m ≤ 1000000) (hbase : base ≤ w.heap.size)
    (h : ∀ v' w', w'.ownsRow base 92 3 v' (n + m) (gvs pcells (xs ++ k)) → w.grownBy w' v.ownBlock → wpList Tryz.prog ops Q rest (a.put o.dst v') w') : wpList Tryz.prog ops Q (o :: rest) a w := by
  obtain ⟨i0, hi, hz0, hz1, hz2⟩ := info_parts infoPeer
  exact wpList_append_rows hgd s x _ ho base 92 i0 _ 3 24 Tryz.underlying50 hi hz0 hz1 hz2 rfl (by decide) (by decide) v n (gvs pcells xs) hs hown u m (gvs pcells k) hx hu (pvs_one k) hlen hbase (fun v' w' q1 q2 => h v' w' (by rw [gvs_append]; exact q1) q2)
theorem peers_lit (w : World) (t : Pr) : Row (w.alloc (.cells #[.int .i64 t.id, .int .i64 t.inc, .int .i64 t.st] 92)) (.slice (some ⟨w.heap.size, 0, none⟩) 1 1) 1 3 (gvs pcells [t]) := lit_g w 92 t 3 rfl rfl
theorem GRow.peers {w : World} {v : Value} {l : List Pr} (h : GRow pcells 3 w v l) : Peers w v l := h
end Go.Proofs.YtdlpnhfgjficgaaGreat

namespace Go.Proofs.YtdlpnhfgjficgaaGreat
open Go.RowKit Go.Maps Go.Sort Go.Shelf

instance : Inhabited Pr := ⟨p0⟩
end Go.Proofs.YtdlpnhfgjficgaaGreat

namespace Go.Proofs.YtdlpnhfgjficgaaGreat
open Go.RowKit Go.Maps Go.Shelf Go.Sort

/-! ### the map and the rising list that it stands for -/
def jnew (m : List (Int × Pr)) (p : Pr) : Pr := match mlook m p.id with
  | some q => later q p
  | none => p
structure MA (m : List (Int × Pr)) (acc : List Pr) : Prop where
  rise : VS acc
  look : ∀ k, mlook m k = vget acc k
  ids : ∀ x ∈ m, x.2.id = x.1
theorem MA.nil : MA [] [] := ⟨KS.nil, fun _ => rfl, by simp⟩
theorem mlook_mem {m : List (Int × Pr)} {k : Int} {p : Pr} (h : mlook m k = some p) : (k, p) ∈ m := by
  unfold mlook at h
  cases hf : m.find? (fun p => p.1 == k) with
  | none => rw [hf] at h; simp at h
  | some x =>
    rw [hf] at h
    have h1 := List.mem_of_find?_eq_some hf
    have h2 := List.find?_some hf
    simp at h h2
    obtain ⟨a, b⟩ := x
    dsimp only at h h2
    subst h h2
    exact h1
theorem mlook_of_mem : ∀ {m : List (Int × Pr)} {x : Int × Pr}, (m.map (·.1)).Nodup → x ∈ m → mlook m x.1 = some x.2
  | [], x, _, h => by simp at h
  | y :: m, x, hn, h => by
    obtain ⟨h1, h2⟩ := List.nodup_cons.1 (List.map_cons (f := fun x : Int × Pr => x.1) ▸ hn)
    unfold mlook
    rcases List.mem_cons.1 h with rfl | h
    · simp
    · have hne : ¬ (y.1 == x.1) = true := fun e => h1 (by rw [show y.1 = x.1 by simpa using e]; exact List.mem_map.2 ⟨x, h, rfl⟩)
      rw [List.find?_cons_of_neg (by simpa using hne)]
      exact mlook_of_mem h2 h
theorem jnew_id {m : List (Int × Pr)} {acc : List Pr} (h : MA m acc) (p : Pr) : (jnew m p).id = p.id := by
  unfold jnew
  split
  · rename_i q hq
    have := h.ids _ (mlook_mem hq)
    dsimp only at this
    rw [later_id this, this]
  · rfl
theorem mput_memP {m : List (Int × Pr)} {k : Int} {v : Pr} {e : Int × Pr} (h : e ∈ mput m k v) : e ∈ m ∨ e = (k, v) := by
  induction m with
  | nil => simp [mput] at h; exact .inr h
  | cons a m ih =>
    unfold mput at h
    split at h
    · rcases List.mem_cons.1 h with h | h
      · exact .inr h
      · exact .inl (List.mem_cons_of_mem _ h)
    · rcases List.mem_cons.1 h with h | h
      · exact .inl (by simp [h])
      · rcases ih h with h | h
        · exact .inl (List.mem_cons_of_mem _ h)
        · exact .inr h
theorem mlook_mputP (m : List (Int × Pr)) (k j : Int) (v : Pr) : mlook (mput m k v) j = if j = k then some v else mlook m j := by
  induction m with
  | nil =>
    unfold mput mlook
    by_cases h : j = k
    · subst h; simp
    · have h' : ¬ k = j := fun e => h e.symm
      simp [h, h']
  | cons a m ih =>
    unfold mput
    by_cases hk : a.1 = k
    · rw [if_pos (by simpa using hk)]
      unfold mlook
      by_cases h : j = k
      · subst h; simp
      · rw [if_neg h, List.find?_cons_of_neg (by simpa using fun e => h (Eq.symm e)), List.find?_cons_of_neg (by rw [hk]; simpa using fun e => h (Eq.symm e))]
    · rw [if_neg (by simpa using hk)]
      unfold mlook at *
      by_cases h : a.1 = j
      · rw [List.find?_cons_of_pos (by simpa using h), List.find?_cons_of_pos (by simpa using h), if_neg (fun e => hk (by rw [h, e]))]
      · rw [List.find?_cons_of_neg (by simpa using h), List.find?_cons_of_neg (by simpa using h), ih]
theorem MA.put {m : List (Int × Pr)} {acc : List Pr} (h : MA m acc) (p : Pr) : MA (mput m p.id (jnew m p)) (pins p acc) := by
  refine ⟨pins_rise p h.rise, fun k => ?_, fun x hx => ?_⟩
  · rw [mlook_mputP, pins_get p acc k h.rise]
    by_cases hk : k = p.id
    · rw [if_pos hk, if_pos hk.symm]
      unfold jnew
      rw [h.look, hk]
      cases vget acc p.id <;> rfl
    · rw [if_neg hk, if_neg (fun e => hk e.symm)]; exact h.look k
  · rcases mput_memP hx with hx | rfl
    · exact h.ids x hx
    · exact jnew_id h p
theorem MA.sorted {m : List (Int × Pr)} {acc ss : List Pr} (h : MA m acc) (hn : (m.map (·.1)).Nodup) (hp : ss.Perm (m.map (·.2))) (hs : ss.Pairwise (fun a b => ¬ b.id < a.id)) : ss = acc := by
  have e : (m.map (·.2)).map (fun p => p.id) = m.map (·.1) := by rw [List.map_map]; exact List.map_congr_left (fun x hx => h.ids x hx)
  have hnd : (ss.map (fun p => p.id)).Nodup := by
    have := (hp.map (fun p => p.id)).nodup_iff.2 (by rw [e]; exact hn)
    exact this
  have hr : VS ss := by
    refine (hs.and (List.pairwise_map.1 hnd)).imp ?_
    rintro a b ⟨h1, h2⟩
    show a.id < b.id
    omega
  refine KS.eq_of_mem il_irr il_tr hr h.rise (fun x => ?_)
  rw [hp.mem_iff, KS.mem_get il_irr h.rise, show kget (fun p : Pr => p.id) acc x.id = mlook m x.id from (h.look x.id).symm]
  constructor
  · intro hx
    obtain ⟨y, hy, rfl⟩ := List.mem_map.1 hx
    rw [h.ids y hy]
    exact mlook_of_mem hn hy
  · intro hx
    exact List.mem_map.2 ⟨_, mlook_mem hx, rfl⟩
theorem penc : Enc pcells 3 := ⟨fun _ => rfl, pcells_one⟩
theorem pvs_take (l : List Pr) (k : Nat) : (pvs l).take (k * 3) = pvs (l.take k) := gvs_take penc l k
theorem sizePeer (W : World) : (sizeOf 92).run Tryz.prog W = .ok 3 W := by kernel_rfl
end Go.Proofs.YtdlpnhfgjficgaaGreat

namespace Go.Proofs.YtdlpnhfgjficgaaGreat
open Go.RowKit Go.Maps Go.Shelf Go.Sort

/-- Rows of texts. -/
def svs (l : List (List UInt8)) : List Value := l.map fun s => .string (bs s)
def Strs (w : World) (v : Value) (l : List (List UInt8)) : Prop := Row w v l.length 1 (svs l)
theorem Strs.shape {w : World} {v : Value} {l : List (List UInt8)} (h : Strs w v l) : ∃ a cap, v = .slice a l.length cap := Row.shape h
theorem Strs.get {w : World} {a : Option Addr} {n cap : Nat} {l : List (List UInt8)} (h : Strs w (.slice a n cap) l) {k : Nat} (hk : k < l.length) :
    ∃ b off, a = some ⟨b, off, none⟩ ∧ b < w.heap.size ∧ w.cell? ⟨b, off + k, none⟩ = some (.string (bs (l.getD k []))) := by
  have e : n = l.length := by obtain ⟨a', c', e⟩ := h.shape; injection e
  subst e
  obtain ⟨b, off, e, hb, hc⟩ := Row.elem h hk
  refine ⟨b, off, e, hb, ?_⟩
  have := hc 0 (by omega)
  simp only [Nat.mul_one, Nat.add_zero] at this
  rw [this]
  simp [svs, List.getD, hk]
end Go.Proofs.YtdlpnhfgjficgaaGreat

namespace Go.Proofs.YtdlpnhfgjficgaaGreat
open Go.RowKit Go.Maps Go.Shelf Go.Sort

theorem RPutW.drew {s : Nat} {w5 W : World} (h : RPutW s w5 W) : RPutW s w5 W.drew := h.pure (Below.refl _ _).drew

end Go.Proofs.YtdlpnhfgjficgaaGreat

