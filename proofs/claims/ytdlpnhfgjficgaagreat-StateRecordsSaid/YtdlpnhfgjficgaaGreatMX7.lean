/- Two messages of one name, together: ref05's and the bag's. names.Join. -/
import Derived.Test.YtdlpnhfgjficgaaGreatMJm
import Derived.Test.YtdlpnhfgjficgaaGreatShelf
import Derived.Test.YtdlpnhfgjficgaaGreatMTx
import Derived.Test.YtdlpnhfgjficgaaGreatMBs
import Derived.Test.YtdlpnhfgjficgaaGreatMCtx
import Derived.WalkMore
namespace Go.Proofs.YtdlpnhfgjficgaaGreat
open Go.RowKit Go.Maps Go.Shelf Go.Sort

theorem bs_list9 (l : List UInt8) : (bs l).toList = l := ByteArray.toList_mk l
theorem bs_beq9 (a b : List UInt8) : ((bs a).toList == (bs b).toList) = decide (a = b) := by
  rw [bs_list9, bs_list9]; by_cases h : a = b <;> simp [h]
theorem pure4 (w : World) (a b c d : Obj) : Pure w ((((w.alloc a).alloc b).alloc c).alloc d) :=
  ((((Below.refl _ _).alloc (Nat.le_refl _) _).alloc (by simp) _).alloc (by simp; omega) _).alloc (by simp; omega) _
theorem both_eq (ax ay bx by_ : Int) (aq ab bq bb : List UInt8) (ac bc : Int) (A E C : Bool) (hA : tlt bq aq = A) (hE : decide (bq = aq) = E) (hC : tlt bb ab = C) :
    mv (bothM ((ax, ay), aq, ab, ac) ((bx, by_), bq, bb, bc)) = if (A || (E && C)) = true then .agg #[.int .i64 bx, .int .i64 by_, .string (bs bq), .string (bs bb), .int .i64 (max ac bc)] else .agg #[.int .i64 ax, .int .i64 ay, .string (bs aq), .string (bs ab), .int .i64 (max ac bc)] := by
  unfold bothM qlt mv
  dsimp only
  rw [hA, hE, hC]
  by_cases h : (A || (E && C)) = true
  · rw [if_pos h, if_pos h]
  · rw [if_neg h, if_neg h]

set_option maxRecDepth 8000 in
set_option maxHeartbeats 4000000 in
theorem rboth_any (a b : Msg) (w : World) :
    Calls Tryz.prog 115 #[mv a, mv b] w fun e w' => e = .returned (mv (bothM a b)) ∧ Pure w w' := by
  obtain ⟨⟨ax, ay⟩, aq, ab, ac⟩ := a
  obtain ⟨⟨bx, by_⟩, bq, bb, bc⟩ := b
  have hA : Op.bytesLess (bs bq).toList (bs aq).toList = tlt bq aq := by rw [bs_list9, bs_list9]; rfl
  have hC : Op.bytesLess (bs bb).toList (bs ab).toList = tlt bb ab := by rw [bs_list9, bs_list9]; rfl
  have hE := bs_beq9 bq aq
  have hE2 : ((bs bq).toList = (bs aq).toList) = (decide (bq = aq) = true) := by rw [bs_list9, bs_list9]; simp
  have Hb := hid (both_eq ax ay bx by_ aq ab bq bb ac bc _ _ _ rfl rfl rfl)
  generalize tlt bq aq = A at *
  generalize tlt bb ab = C at *
  generalize decide (bq = aq) = E at *
  rw [Hb.out]
  clear Hb
  unfold mv
  dsimp only
  generalize bs aq = Qa at *
  generalize bs ab = Ba at *
  generalize bs bq = Qb at *
  generalize bs bb = Bb at *
  have hp := hid (pure4 w)
  have hm1 : bc > ac → max ac bc = bc := fun h => by omega
  have hm2 : ¬ bc > ac → max ac bc = ac := fun h => by omega
  have Hm1 := hid hm1
  have Hm2 := hid hm2
  clear hm1 hm2
  go_enter Tryz.func115, Tryz.ntmps115
  by_cases hc : bc > ac
  · rw [Hm1.out hc]
    cases A <;> cases E <;> cases C <;>
    · go_wp2
      exact bodyPost_ret (v := .agg _) (by simp [results, Tryz.results115, go_sem]; rfl) rfl ⟨by simp, hp.out _ _ _ _⟩
  · rw [Hm2.out hc]
    cases A <;> cases E <;> cases C <;>
    · go_wp2
      exact bodyPost_ret (v := .agg _) (by simp [results, Tryz.results115, go_sem]; rfl) rfl ⟨by simp, hp.out _ _ _ _⟩

end Go.Proofs.YtdlpnhfgjficgaaGreat

namespace Go.Proofs.YtdlpnhfgjficgaaGreat
open Go.RowKit Go.Maps Go.Shelf

theorem slice_pre_eq {P : Program} {t e : TypeId} {size : Nat} (ht : P.underlying t = some (.slice e)) {w : World} {a : Option Addr} {n cap : Nat} {xs : List Value} (h : Row w (.slice a n cap) n size xs) {k : Nat} (hk : k ≤ n) (hp : a = none ∨ ∃ b o, a = some ⟨b, o, none⟩) (hsz : ∀ W, (sizeOf e).run P W = .ok size W) :
    (∀ W, (Instr.slice t (.slice a n cap) none (some (.int .i64 k)) none).run P W = .ok (.slice a k cap) W) ∧ ∀ W, Row W (.slice a n cap) n size xs → Row W (.slice a k cap) k size (xs.take (k * size)) := by
  obtain ⟨hl, a', cap', e', h1, h2, hc⟩ := h
  cases e'
  have hte : P.elem t = e := by simp [Program.elem, ht]
  have ht' : P.underlying t = some (.slice (P.elem t)) := by rw [hte]; exact ht
  refine ⟨fun W => ?_, fun W hW => ?_⟩
  · rw [run_slice_h (P := P) (w := W) t a n cap ht' .i64 (k : Int) (by omega) (by omega), hte, hsz]
    rcases hp with rfl | ⟨b, o, rfl⟩
    · simp [sliced, go_sem]
    · by_cases hz : cap = 0
      · simp [sliced, go_sem, hz]
      · simp [sliced, go_sem, Addr.add]
  · rcases hp with rfl | ⟨b, o, rfl⟩
    · rcases hc with rfl | ⟨_, _, e, _⟩
      · obtain rfl : n = 0 := by omega
        obtain rfl : k = 0 := by omega
        exact ⟨by simp, none, 0, rfl, by omega, by simp, .inl rfl⟩
      · cases e
    · exact row_pre hW hk
theorem gvs_take {α : Type} {f : α → List Value} {s : Nat} (hE : Enc f s) : ∀ (l : List α) (k : Nat), (gvs f l).take (k * s) = gvs f (l.take k)
  | [], k => by simp [gvs]
  | a :: l, 0 => by simp [gvs]
  | a :: l, k + 1 => by
    have ih := gvs_take hE l k
    have e : gvs f (a :: l) = f a ++ gvs f l := rfl
    have e2 : gvs f ((a :: l).take (k + 1)) = f a ++ gvs f (l.take k) := rfl
    rw [e, e2, ← ih, List.take_append, List.take_of_length_le (by rw [hE.len, Nat.succ_mul]; omega), hE.len, show (k + 1) * s - s = k * s by rw [Nat.succ_mul]; omega]
theorem sizeTag (W : World) : (sizeOf 90).run Tryz.prog W = .ok 2 W := by kernel_rfl
/-- What stands between two rounds. -/
structure TI (w : World) (total : List Tag) (v0 v1 : Value) (l k : List Tag) (v5 : Value) (Y : List Tag) (W : World) : Prop where
  h0 : Tags w v0 l
  h1 : Tags w v1 k
  own : W.ownsRow w.heap.size 90 2 v5 Y.length (gvs tcells Y)
  p : Pure w W
  t : Y ++ tmrg l k = total
  n : Y.length + l.length + k.length ≤ 10000
section
variable {w W W' : World} {total : List Tag} {v0 v1 v5 v0' v1' v5' : Value} {l k Y : List Tag} {x y : Tag}
theorem TI.left (h : TI w total v0 v1 (x :: l) k v5 Y W) (hk : k = [] ∨ ∃ y k', k = y :: k' ∧ tlt x.1 y.1 = true) (ht : Tags w v0' l) (ho : W'.ownsRow w.heap.size 90 2 v5' (Y.length + 1) (gvs tcells (Y ++ [x]))) (hp : Pure w W') : TI w total v0' v1 l k v5' (Y ++ [x]) W' := by
  refine ⟨ht, h.h1, by rw [List.length_append]; exact ho, hp, ?_, ?_⟩
  · rw [← h.t, List.append_assoc]
    rcases hk with rfl | ⟨y, k', rfl, hd⟩
    · rw [tmrg_nil, tmrg_nil]; rfl
    · rw [tmrg, if_pos hd]; rfl
  · have := h.n
    simp only [List.length_cons, List.length_append, List.length_nil] at *; omega
theorem TI.right (h : TI w total v0 v1 l (y :: k) v5 Y W) (hl : l = [] ∨ ∃ x l', l = x :: l' ∧ tlt x.1 y.1 = false ∧ x.1 ≠ y.1) (ht : Tags w v1' k) (ho : W'.ownsRow w.heap.size 90 2 v5' (Y.length + 1) (gvs tcells (Y ++ [y]))) (hp : Pure w W') : TI w total v0 v1' l k v5' (Y ++ [y]) W' := by
  refine ⟨h.h0, ht, by rw [List.length_append]; exact ho, hp, ?_, ?_⟩
  · rw [← h.t, List.append_assoc]
    rcases hl with rfl | ⟨x, l', rfl, hd, hn⟩
    · rw [tmrg, tmrg]; rfl
    · rw [tmrg, if_neg (by simp [hd]), if_pos hn]; rfl
  · have := h.n
    simp only [List.length_cons, List.length_append, List.length_nil] at *; omega
theorem TI.end_ (h : TI w total v0 v1 [] [] v5 Y W) : Y = total := by rw [← h.t, tmrg]; simp
end
end Go.Proofs.YtdlpnhfgjficgaaGreat

