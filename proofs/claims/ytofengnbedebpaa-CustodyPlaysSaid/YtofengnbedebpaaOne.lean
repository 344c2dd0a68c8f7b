/- law18's one: a bag by a number. -/
import Derived.Test.YtofengnbedebpaaOneP
namespace Go.Proofs.Ytofengnbedebpaa
open Go.RowKit Go.Maps

theorem and7 (n : Int) : 0 ≤ bits .and .i64 n 7 ∧ bits .and .i64 n 7 ≤ 7 := by
  show 0 ≤ IntKind.i64.wrap ((BitVec.ofInt 64 n &&& BitVec.ofInt 64 7).toNat : Int) ∧ IntKind.i64.wrap ((BitVec.ofInt 64 n &&& BitVec.ofInt 64 7).toNat : Int) ≤ 7
  have hx : (BitVec.ofInt 64 n &&& BitVec.ofInt 64 7).toNat ≤ 7 := by
    rw [BitVec.toNat_and]
    exact Nat.le_trans Nat.and_le_right (by decide)
  rw [IntWalk.i64_in _ (by omega)]
  omega
def n7 (n : Int) : Nat := (bits .and .i64 n 7).toNat
theorem n7_eq (n : Int) : bits .and .i64 n 7 = (n7 n : Int) := by have := and7 n; unfold n7; omega
theorem n7_le (n : Int) : n7 n ≤ 7 := by have := and7 n; unfold n7; omega
theorem oneB_bd (k : Nat) : ∀ d ∈ (oneB k).2.1, 0 ≤ d.2 ∧ d.2 ≤ 1152921504606846976 ∨ 7 < k := by
  intro d hd
  by_cases h : 7 < k
  · exact .inr h
  · left
    unfold oneB at hd
    dsimp only at hd
    split at hd
    · simp at hd
    · simp at hd; subst hd; dsimp only; omega
theorem oneB_bd' {k : Nat} (h : k ≤ 7) : ∀ d ∈ (oneB k).2.1, 0 ≤ d.2 ∧ d.2 ≤ 1152921504606846976 := fun d hd => (oneB_bd k d hd).resolve_right (by omega)
theorem oneB_len (k : Nat) : (oneB k).1.length = k ∧ (oneB k).2.1.length ≤ 1 ∧ (oneB k).2.2.length = 0 := by
  unfold oneB
  refine ⟨by simp, ?_, rfl⟩
  dsimp only
  split <;> simp

theorem agg3 {a b c x y z : Value} (h : Value.agg #[a, b, c] = .agg #[x, y, z]) : a = x ∧ b = y ∧ c = z := by simpa using h
theorem set3 {w : World} {b : Nat} {t0 t1 t2 : Value} {T : TypeId} (hb : w.heap[b]? = some (.cells #[t0, t1, t2] T (0, 0))) (v0 v1 v2 : Value) :
    (((w.setCell ⟨b, 0, none⟩ v0).setCell ⟨b, 1, none⟩ v1).setCell ⟨b, 2, none⟩ v2).heap[b]? = some (.cells #[v0, v1, v2] T (0, 0)) := by
  have := block_setCell (block_setCell (block_setCell hb 0 v0) 1 v1) 2 v2
  simpa using this
theorem kept3 (w : World) (b : Nat) (v0 v1 v2 : Value) : Kept (fun k => k = b) w (((w.setCell ⟨b, 0, none⟩ v0).setCell ⟨b, 1, none⟩ v1).setCell ⟨b, 2, none⟩ v2) :=
  have h1 : Kept (fun k => k = b) w (w.setCell ⟨b, 0, none⟩ v0) := Kept.setCell (S := fun k => k = b) (Kept.refl _ w) (p := ⟨b, 0, none⟩) (fun _ => rfl) v0
  have h2 : Kept (fun k => k = b) w ((w.setCell ⟨b, 0, none⟩ v0).setCell ⟨b, 1, none⟩ v1) := Kept.setCell (S := fun k => k = b) h1 (p := ⟨b, 1, none⟩) (fun _ => rfl) v1
  Kept.setCell (S := fun k => k = b) h2 (p := ⟨b, 2, none⟩) (fun _ => rfl) v2
/-- The block b holds a bag. -/
def BagIn (w : World) (b : Nat) (g : Bag) (n : Nat) : Prop := ∃ v0 v1 v2, w.heap[b]? = some (.cells #[v0, v1, v2] 31 (0, 0)) ∧ BagAt w (.agg #[v0, v1, v2]) g ∧ BagFrom n (.agg #[v0, v1, v2])

set_option maxRecDepth 8000 in
set_option maxHeartbeats 4000000 in
theorem one_any (n : Int) (w : World) :
    Calls Try.prog 10 #[.int .i64 n] w fun r w' => ∃ v, r = .returned v ∧ BagAt w' v (oneB (n7 n)) ∧ Pure w w' := by
  have hle := n7_le n
  have heq := n7_eq n
  generalize n7 n = N at *
  obtain ⟨wz, hwz⟩ : ∃ wz, wz = (w.alloc (.cells #[.slice none 0 0, .slice none 0 0, .slice none 0 0] 31)).alloc (.cells #[.slice none 0 0, .slice none 0 0, .slice none 0 0] 31) := ⟨_, rfl⟩
  have Hwz := hid (show Pure w wz from by rw [hwz]; exact ((Below.refl _ _).alloc (Nat.le_refl _) _).alloc (by simp) _)
  have hsz : wz.heap.size = w.heap.size + 2 := by rw [hwz]; simp
  have b0 : wz.heap[w.heap.size]? = some (.cells #[.slice none 0 0, .slice none 0 0, .slice none 0 0] 31 (0, 0)) := by rw [hwz]; exact block_alloc_old (block_alloc_new _ _) _
  have b1 : wz.heap[w.heap.size + 1]? = some (.cells #[.slice none 0 0, .slice none 0 0, .slice none 0 0] 31 (0, 0)) := by
    rw [hwz]
    have := block_alloc_new (w.alloc (.cells #[.slice none 0 0, .slice none 0 0, .slice none 0 0] 31)) (.cells #[.slice none 0 0, .slice none 0 0, .slice none 0 0] 31)
    simpa using this
  have Hb0 := hid b0
  have Hat : Hid (BagIn wz (w.heap.size + 1) (oneB 0) (w.heap.size + 2)) :=
    ⟨_, _, _, b1, ⟨_, _, _, rfl, Row.nil _ _, Row.nil _ _, Row.nil _ _⟩, fun v0 v1 v2 e => by
      obtain ⟨rfl, rfl, rfl⟩ : .slice none 0 0 = v0 ∧ .slice none 0 0 = v1 ∧ .slice none 0 0 = v2 := by simpa using e
      simp [Value.rb]⟩
  clear b0 b1
  go_enter Try.func10, Try.ntmps10
  go_wp2
  rw [← hwz]
  clear hwz
  go_loopw [4] (fun i wr => ∃ k : Nat, k ≤ N ∧ i = .int .i64 k ∧ BagIn wr (w.heap.size + 1) (oneB k) (w.heap.size + 2) ∧ Kept (fun b => b = w.heap.size + 1) wz wr) (fun i _ => N - (RowKit.intOf i).toNat)
  case atStart => exact ⟨0, Nat.zero_le _, rfl, Hat.out, Kept.refl _ _⟩
  case round =>
    obtain ⟨k, hk, rfl, ⟨v0, v1, v2, hb, hat, hfr⟩, hp⟩ := hrel
    have hbag := hat
    obtain ⟨x0, x1, x2, ex, h0, h1, h2⟩ := hat
    obtain ⟨rfl, rfl, rfl⟩ := agg3 ex
    clear ex
    have c0 : wr.cell? ⟨w.heap.size + 1, 0, none⟩ = some v0 := cell_of_block hb 0
    have c1 : wr.cell? ⟨w.heap.size + 1, 1, none⟩ = some v1 := cell_of_block hb 1
    have c2 : wr.cell? ⟨w.heap.size + 1, 2, none⟩ = some v2 := cell_of_block hb 2
    have Hb := hid hb
    have Hp := hid hp
    have Hbag := hid hbag
    have Hfr := hid hfr
    clear hb hp hbag hfr
    by_cases hlt : k < N
    · have hlt' : (k : Int) < (N : Int) := by omega
      have hput := hid (rput_ok v0 v1 v2 (oneB k).1 (oneB k).2.1 (oneB k).2.2 (om k) wr h0 h1 h2 (om_may k (by omega)) (om_new k (by omega)) (by have := oneB_len k; omega) (by have := oneB_len k; omega) (oneB_bd' (by omega)))
      have Hstep := hid (show bput ((oneB k).1, (oneB k).2.1, (oneB k).2.2) (om k) = oneB (k + 1) from oneB_step k (by omega))
      rw [Hstep.out] at hput
      unfold om mv at hput
      dsimp only at hput
      have hq : bs [113] = ⟨#[113]⟩ := rfl
      have hq0 : bs [] = ⟨#[]⟩ := rfl
      rw [hq, hq0] at hput
      clear hq hq0
      obtain ⟨p0, s0, rfl⟩ := h0.shape
      obtain ⟨p1, s1, rfl⟩ := h1.shape
      obtain ⟨p2, s2, rfl⟩ := h2.shape
      clear h0 h1 h2
      go_wp2_with fail
      refine hput.out.mono ?_
      rintro e w2 ⟨v, rfl, hat2, hp2, hfr2⟩
      clear Hstep hput
      generalize hG : oneB (k + 1) = G at *
      have HG := hid hG
      clear hG
      obtain ⟨y0, y1, y2, rfl, i0, i1, i2⟩ := hat2
      obtain ⟨g0, g1, g2⟩ := hfr2 _ _ _ rfl
      have hb2 := (hp2.block _ (lt_of_block Hb.out)).trans Hb.out
      obtain ⟨q0, t0, rfl⟩ := i0.shape
      obtain ⟨q1, t1, rfl⟩ := i1.shape
      obtain ⟨q2, t2, rfl⟩ := i2.shape
      have d0 : w2.cell? ⟨w.heap.size + 1, 0, none⟩ = some (.slice p0 (oneB k).1.length s0) := cell_of_block hb2 0
      have d1 : w2.cell? ⟨w.heap.size + 1, 1, none⟩ = some (.slice p1 (oneB k).2.1.length s1) := cell_of_block hb2 1
      have d2 : w2.cell? ⟨w.heap.size + 1, 2, none⟩ = some (.slice p2 (oneB k).2.2.length s2) := cell_of_block hb2 2
      have e0 := free_of_block hb2 0
      have e1 := free_of_block hb2 1
      have e2 := free_of_block hb2 2
      have hszr : w.heap.size + 2 ≤ wr.heap.size := by have := Hp.out.size; omega
      have hfin : Hid (BagIn (((w2.setCell ⟨w.heap.size + 1, 0, none⟩ (.slice q0 G.1.length t0)).setCell ⟨w.heap.size + 1, 1, none⟩ (.slice q1 G.2.1.length t1)).setCell ⟨w.heap.size + 1, 2, none⟩ (.slice q2 G.2.2.length t2)) (w.heap.size + 1) G (w.heap.size + 2) ∧ Kept (fun b => b = w.heap.size + 1) wz (((w2.setCell ⟨w.heap.size + 1, 0, none⟩ (.slice q0 G.1.length t0)).setCell ⟨w.heap.size + 1, 1, none⟩ (.slice q1 G.2.1.length t1)).setCell ⟨w.heap.size + 1, 2, none⟩ (.slice q2 G.2.2.length t2))) := by
        refine ⟨⟨_, _, _, set3 hb2 _ _ _, ⟨_, _, _, rfl, Row.kept i0 (kept3 _ _ _ _ _) (fun k hk e => by have := g0 k hk; omega), Row.kept i1 (kept3 _ _ _ _ _) (fun k hk e => by have := g1 k hk; omega), Row.kept i2 (kept3 _ _ _ _ _) (fun k hk e => by have := g2 k hk; omega)⟩, fun v0 v1 v2 e => ?_⟩, (Hp.out.trans hp2.kept).trans (kept3 _ _ _ _ _)⟩
        obtain ⟨rfl, rfl, rfl⟩ := agg3 e
        exact ⟨fun k hk => by have := g0 k hk; omega, fun k hk => by have := g1 k hk; omega, fun k hk => by have := g2 k hk; omega⟩
      clear hb2 g0 g1 g2 i0 i1 i2 hp2 hszr c0 c1 c2
      go_wp2
      go_roundw
      case rel => exact ⟨k + 1, by omega, by go_num, by rw [HG.out]; exact hfin.out.1, hfin.out.2⟩
      case measure => simp [RowKit.intOf]; omega
    · have hlt' : ¬ (k : Int) < (N : Int) := by omega
      have He := hid (show k = N by omega)
      generalize hG : oneB k = G at *
      have HG := hid hG
      clear hG
      obtain ⟨p0, s0, rfl⟩ := h0.shape
      obtain ⟨p1, s1, rfl⟩ := h1.shape
      obtain ⟨p2, s2, rfl⟩ := h2.shape
      have hres := (Hp.out.block _ (by omega) (by show ¬ w.heap.size = _; omega)).trans Hb0.out
      have d0 : wr.cell? ⟨w.heap.size, 0, none⟩ = some (.slice none 0 0) := cell_of_block hres 0
      have d1 : wr.cell? ⟨w.heap.size, 1, none⟩ = some (.slice none 0 0) := cell_of_block hres 1
      have d2 : wr.cell? ⟨w.heap.size, 2, none⟩ = some (.slice none 0 0) := cell_of_block hres 2
      have e0 : wr.frozen? ⟨w.heap.size, 0, none⟩ = false := free_of_block hres 0
      have e1 : wr.frozen? ⟨w.heap.size, 1, none⟩ = false := free_of_block hres 1
      have e2 : wr.frozen? ⟨w.heap.size, 2, none⟩ = false := free_of_block hres 2
      have hfin : Hid (((((wr.setCell ⟨w.heap.size, 0, none⟩ (.slice p0 G.1.length s0)).setCell ⟨w.heap.size, 1, none⟩ (.slice p1 G.2.1.length s1)).setCell ⟨w.heap.size, 2, none⟩ (.slice p2 G.2.2.length s2)).heap[w.heap.size]? = some (.cells #[.slice p0 G.1.length s0, .slice p1 G.2.1.length s1, .slice p2 G.2.2.length s2] 31 (0, 0))) ∧ BagAt (((wr.setCell ⟨w.heap.size, 0, none⟩ (.slice p0 G.1.length s0)).setCell ⟨w.heap.size, 1, none⟩ (.slice p1 G.2.1.length s1)).setCell ⟨w.heap.size, 2, none⟩ (.slice p2 G.2.2.length s2)) (.agg #[.slice p0 G.1.length s0, .slice p1 G.2.1.length s1, .slice p2 G.2.2.length s2]) G ∧ Pure w (((wr.setCell ⟨w.heap.size, 0, none⟩ (.slice p0 G.1.length s0)).setCell ⟨w.heap.size, 1, none⟩ (.slice p1 G.2.1.length s1)).setCell ⟨w.heap.size, 2, none⟩ (.slice p2 G.2.2.length s2))) := by
        obtain ⟨g0, g1, g2⟩ := Hfr.out _ _ _ rfl
        refine ⟨set3 hres _ _ _, ⟨_, _, _, rfl, Row.kept h0 (kept3 _ _ _ _ _) (fun k hk e => by have := g0 k hk; omega), Row.kept h1 (kept3 _ _ _ _ _) (fun k hk e => by have := g1 k hk; omega), Row.kept h2 (kept3 _ _ _ _ _) (fun k hk e => by have := g2 k hk; omega)⟩, ?_⟩
        exact Below.trans Hwz.out (((Hp.out.mono (fun b _ (e : b = _) => (show w.heap.size ≤ b by omega))).trans ((kept3 _ _ _ _ _).mono (fun b _ (e : b = _) => (show w.heap.size ≤ b by omega)))).below Hwz.out.size (fun b hb e => by omega))
      have r0 := hid (cell_of_block hfin.out.1 0)
      have r1 := hid (cell_of_block hfin.out.1 1)
      have r2 := hid (cell_of_block hfin.out.1 2)
      clear h0 h1 h2 hres
      go_wp2
      refine bodyPost_ret (v := .agg #[.slice p0 G.1.length s0, .slice p1 G.2.1.length s1, .slice p2 G.2.2.length s2]) (by simp [results, Try.results10, go_sem, r0.out, r1.out, r2.out]) rfl ⟨_, rfl, by rw [← He.out, HG.out]; exact hfin.out.2.1, hfin.out.2.2⟩
end Go.Proofs.Ytofengnbedebpaa
