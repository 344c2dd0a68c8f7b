/- ref05's Bytes. -/
import Derived.Test.YtdlpnhfgjficgaaGreatMQa
namespace Go.Proofs.YtdlpnhfgjficgaaGreat
open Go.RowKit Go.Maps

def textB (s : List UInt8) : List UInt8 := num s.length ++ s
def msgB (m : Msg) : List UInt8 := dotB m.1 ++ textB m.2.1 ++ textB m.2.2.1 ++ num m.2.2.2.toNat
def bagB (g : Bag) : List UInt8 := ctxB g.2.1 g.2.2 ++ num g.1.length ++ g.1.flatMap msgB
def SmallM (m : Msg) : Prop := Small m.1 ∧ 0 ≤ m.2.2.2 ∧ m.2.2.2 < 9223372036854775808 ∧ m.2.1.length ≤ 10000 ∧ m.2.2.1.length ≤ 10000
def SmallG (g : Bag) : Prop := (∀ m ∈ g.1, SmallM m) ∧ (∀ d ∈ g.2.1, Small d) ∧ (∀ d ∈ g.2.2, Small d) ∧ g.1.length ≤ 10000 ∧ g.2.1.length ≤ 100000 ∧ g.2.2.length ≤ 100000
theorem textB_len (s : List UInt8) (h : s.length ≤ 10000) : (textB s).length ≤ 10010 := by
  have := num_len s.length (by omega)
  unfold textB; rw [List.length_append]; omega
theorem msgB_len (m : Msg) (h : SmallM m) : (msgB m).length ≤ 20050 := by
  obtain ⟨h1, h2, h3, h4, h5⟩ := h
  have := dotB_len m.1 h1
  have := textB_len _ h4
  have := textB_len _ h5
  have := num_len m.2.2.2.toNat (by omega)
  unfold msgB; rw [List.length_append, List.length_append, List.length_append]; omega
theorem flatM_len (l : List Msg) (h : ∀ d ∈ l, SmallM d) : (l.flatMap msgB).length ≤ 20050 * l.length := by
  induction l with
  | nil => simp
  | cons d l ih =>
    have h1 := msgB_len d (h d (by simp))
    have h2 := ih (fun x hx => h x (by simp [hx]))
    rw [List.flatMap_cons, List.length_append, List.length_cons]; omega
theorem bagB_take (p : List UInt8) (l : List Msg) (k : Nat) (h : k < l.length) : p ++ (l.take (k + 1)).flatMap msgB = (((p ++ (l.take k).flatMap msgB ++ dotB (l.getD k m0).1) ++ textB (l.getD k m0).2.1) ++ textB (l.getD k m0).2.2.1) ++ num (l.getD k m0).2.2.2.toNat := by
  rw [take_succ_m l k h]; simp [msgB, List.append_assoc]

set_option maxRecDepth 8000 in
set_option maxHeartbeats 4000000 in
theorem rbbytes_any (v : Value) (g : Bag) (w : World) (hat : BagAt w v g) (hsm : SmallG g) :
    Calls Tryz.prog 63 #[v] w fun e w' => e = .returned (.string (bs (bagB g))) ∧ Pure w w' := by
  obtain ⟨v0, v1, v2, rfl, h0, h1, h2⟩ := hat
  obtain ⟨L, B, C⟩ := g
  obtain ⟨sM, sB, sC, lM, lB, lC⟩ := hsm
  dsimp only at h0 h1 h2 sM sB sC lM lB lC
  obtain ⟨a0, c0, rfl⟩ := h0.shape
  obtain ⟨a1, c1, rfl⟩ := h1.shape
  obtain ⟨a2, c2, rfl⟩ := h2.shape
  have SM := hid sM
  obtain ⟨wz, hwz⟩ : ∃ wz, wz = w.alloc (.cells #[.slice a0 L.length c0, .slice a1 B.length c1, .slice a2 C.length c2] 34) := ⟨_, rfl⟩
  have Hwz := hid (show Pure w wz from by rw [hwz]; exact (Below.refl _ _).alloc (Nat.le_refl _) _)
  have b0 : wz.heap[w.heap.size]? = some (.cells #[.slice a0 L.length c0, .slice a1 B.length c1, .slice a2 C.length c2] 34 (0, 0)) := by rw [hwz]; exact block_alloc_new _ _
  have hS : Hid (∀ W, Pure wz W → (W.cell? ⟨w.heap.size, 0, none⟩ = some (.slice a0 L.length c0) ∧ W.cell? ⟨w.heap.size, 1, none⟩ = some (.slice a1 B.length c1) ∧ W.cell? ⟨w.heap.size, 2, none⟩ = some (.slice a2 C.length c2) ∧ Pure wz W)) := fun W hW => by
    have e0 := (hW.block _ (lt_of_block b0)).trans b0
    exact ⟨cell_of_block e0 0, cell_of_block e0 1, cell_of_block e0 2, hW⟩
  have hS2 : Hid (∀ W : World, (W.cell? ⟨w.heap.size, 0, none⟩ = some (.slice a0 L.length c0) ∧ W.cell? ⟨w.heap.size, 1, none⟩ = some (.slice a1 B.length c1) ∧ W.cell? ⟨w.heap.size, 2, none⟩ = some (.slice a2 C.length c2) ∧ Pure wz W) → Pure wz W) := fun W h => h.2.2.2
  have hst := hid (hS.out wz.drew (Below.refl _ _).drew)
  have HL := hid (show Msgs wz (.slice a0 L.length c0) L from Row.pure h0 Hwz.out)
  have hctx := hid (fun W (hW : Pure wz W) => rcbytes_any _ _ B C W (show Dots W (.slice a1 B.length c1) B from Row.pure h1 (Hwz.out.then_ hW)) (show Dots W (.slice a2 C.length c2) C from Row.pure h2 (Hwz.out.then_ hW)) sB sC lB lC)
  have hint := hid (fun W => rint_any (L.length : Int) W (by omega) (by omega))
  have n1 : ¬ 9223372036854775807 < (bs (ctxB B C)).size + (bs (num L.length)).size := by
    have := rowB_len B sB lB
    have := rowB_len C sC lC
    have := num_len L.length (by omega)
    rw [bs_size, bs_size]; unfold ctxB; rw [List.length_append]; omega
  have hlp : (ctxB B C ++ num L.length).length ≤ 5000000 := by
    have := rowB_len B sB lB
    have := rowB_len C sC lC
    have := num_len L.length (by omega)
    unfold ctxB; rw [List.length_append, List.length_append]; omega
  have hgB := hid (show bagB (L, B, C) = (ctxB B C ++ num L.length) ++ L.flatMap msgB from rfl)
  have happ := hid (bs_append (ctxB B C) (num L.length))
  rw [Int.toNat_natCast] at hint
  generalize hP : ctxB B C ++ num L.length = P at *
  generalize bs (ctxB B C) = X at *
  generalize bs (num L.length) = Y at *
  clear hP b0 h0 h1 h2 sM sB sC
  go_enter Tryz.func63, Tryz.ntmps63
  go_wp2_with fail
  rw [← hwz]
  clear hwz
  go_region_held3 (fun W => W.cell? ⟨w.heap.size, 0, none⟩ = some (.slice a0 L.length c0) ∧ W.cell? ⟨w.heap.size, 1, none⟩ = some (.slice a1 B.length c1) ∧ W.cell? ⟨w.heap.size, 2, none⟩ = some (.slice a2 C.length c2) ∧ Pure wz W)
    (first | with_reducible exact hst.out | with_reducible exact hS.out _ (Pure.then_ (hS2.out _ (by assumption)) (by assumption)))
    (first
      | (go_at_call 130; with_reducible refine (hctx.out _ (hS2.out _ (by assumption))).mono ?_; rintro e w1 ⟨rfl, hp1⟩)
      | (go_at_call 61; with_reducible refine (hint.out _).mono ?_; rintro e w1 ⟨rfl, hp1⟩))
  have Hp1 := hid (hS2.out w1 (by assumption))
  clear hp1 hst n1
  go_wp2
  go_loopw [3, 4, 5] (fun s i _ wr => ∃ k : Nat, k ≤ L.length ∧ i = .int .i64 k ∧ s = .string (bs (P ++ (L.take k).flatMap msgB)) ∧ Pure wz wr) (fun _ i _ _ => L.length - (RowKit.intOf i).toNat)
  case atStart => exact ⟨0, Nat.zero_le _, rfl, by rw [happ.out]; simp, Hp1.out⟩
  case round =>
    obtain ⟨k, hk, rfl, rfl, hp⟩ := hrel
    obtain ⟨f0, -, -, -⟩ := hS.out wr hp
    by_cases hlt : k < L.length
    · obtain ⟨b, off, rfl, hb, d0, d1, d2, d3, d4⟩ := Msgs.get (show Msgs wr (.slice a0 L.length c0) L from Row.pure HL.out hp) hlt
      have hlt' : (k : Int) < (L.length : Int) := by omega
      have Hstep := hid (bagB_take P L k hlt)
      have hsmz := SM.out _ (mem_get_m hlt)
      have hfl := flatM_len (L.take k) (fun d hd => SM.out d (List.mem_of_mem_take hd))
      rw [List.length_take] at hfl
      have hpl : (P ++ (L.take k).flatMap msgB).length ≤ 300000000 := by rw [List.length_append]; omega
      generalize P ++ (L.take k).flatMap msgB = A at *
      generalize L.getD k m0 = z at *
      obtain ⟨⟨z1, z2⟩, q, bo, c⟩ := z
      obtain ⟨s1, s2, s3, s4, s5⟩ := hsmz
      dsimp only at d0 d1 d2 d3 d4 s1 s2 s3 s4 s5 Hstep
      have k1 := dotB_len _ s1
      have k2 := textB_len q s4
      have k3 := textB_len bo s5
      have k4 := num_len c.toNat (by omega)
      have cD := hid (fun W => rdbytes_any (z1, z2) W s1)
      have cQ := hid (fun W => rtext_any q W (by omega))
      have cB := hid (fun W => rtext_any bo W (by omega))
      have cC := hid (fun W => rint_any c W s2 s3)
      have hap : Hid ((((bs A ++ bs (dotB (z1, z2))) ++ bs (textB q)) ++ bs (textB bo)) ++ bs (num c.toNat) = bs ((((A ++ dotB (z1, z2)) ++ textB q) ++ textB bo) ++ num c.toNat)) := by
        show _ = _
        rw [bs_append, bs_append, bs_append, bs_append]
      have m1 : ¬ 9223372036854775807 < (bs A).size + (bs (dotB (z1, z2))).size := by rw [bs_size, bs_size]; omega
      have m2 : ¬ 9223372036854775807 < (bs A).size + (bs (dotB (z1, z2))).size + (bs (textB q)).size := by rw [bs_size, bs_size, bs_size]; omega
      have m3 : ¬ 9223372036854775807 < (bs A).size + (bs (dotB (z1, z2))).size + (bs (textB q)).size + (bs (textB bo)).size := by rw [bs_size, bs_size, bs_size, bs_size]; omega
      have m4 : ¬ 9223372036854775807 < (bs A).size + (bs (dotB (z1, z2))).size + (bs (textB q)).size + (bs (textB bo)).size + (bs (num c.toNat)).size := by rw [bs_size, bs_size, bs_size, bs_size, bs_size]; omega
      have Hp := hid hp
      obtain ⟨wo, rfl⟩ : ∃ wo : World, wo = wr := ⟨_, rfl⟩
      clear hp hpl hfl k1 k2 k3 k4 s1 s2 s3 s4 s5
      unfold dv at cD
      dsimp only at cD
      have eq1 : num q.length ++ q = textB q := rfl
      have eq2 : num bo.length ++ bo = textB bo := rfl
      rw [eq1] at cQ
      rw [eq2] at cB
      clear eq1 eq2
      generalize bs A = SA at *
      generalize bs (dotB (z1, z2)) = SD at *
      generalize bs (textB q) = SQ at *
      generalize bs (textB bo) = SB at *
      generalize bs (num c.toNat) = SC at *
      generalize bs q = Q at *
      generalize bs bo = BO at *
      obtain ⟨wb, hwb⟩ : ∃ wb, wb = wo.alloc (.cells #[.int .i64 z1, .int .i64 z2, .string Q, .string BO, .int .i64 c] 43) := ⟨_, rfl⟩
      have Hwb := hid (show Pure wo wb from by rw [hwb]; exact (Below.refl _ _).alloc (Nat.le_refl _) _)
      have bb : wb.heap[wo.heap.size]? = some (.cells #[.int .i64 z1, .int .i64 z2, .string Q, .string BO, .int .i64 c] 43 (0, 0)) := by rw [hwb]; exact block_alloc_new _ _
      have hT : Hid (∀ W, Pure wb W → (W.cell? ⟨wo.heap.size, 0, none⟩ = some (.int .i64 z1) ∧ W.cell? ⟨wo.heap.size, 1, none⟩ = some (.int .i64 z2) ∧ W.cell? ⟨wo.heap.size, 2, none⟩ = some (.string Q) ∧ W.cell? ⟨wo.heap.size, 3, none⟩ = some (.string BO) ∧ W.cell? ⟨wo.heap.size, 4, none⟩ = some (.int .i64 c) ∧ Pure wb W)) := fun W hW => by
        have e0 := (hW.block _ (lt_of_block bb)).trans bb
        exact ⟨cell_of_block e0 0, cell_of_block e0 1, cell_of_block e0 2, cell_of_block e0 3, cell_of_block e0 4, hW⟩
      have hT2 : Hid (∀ W : World, (W.cell? ⟨wo.heap.size, 0, none⟩ = some (.int .i64 z1) ∧ W.cell? ⟨wo.heap.size, 1, none⟩ = some (.int .i64 z2) ∧ W.cell? ⟨wo.heap.size, 2, none⟩ = some (.string Q) ∧ W.cell? ⟨wo.heap.size, 3, none⟩ = some (.string BO) ∧ W.cell? ⟨wo.heap.size, 4, none⟩ = some (.int .i64 c) ∧ Pure wb W) → Pure wb W) := fun W h => h.2.2.2.2.2
      have htt := hid (hT.out wb.drew (Below.refl _ _).drew)
      clear bb
      go_wp2_with fail
      rw [← hwb]
      clear hwb f0 d0 d1 d2 d3 d4
      go_region_held3 (fun W => W.cell? ⟨wo.heap.size, 0, none⟩ = some (.int .i64 z1) ∧ W.cell? ⟨wo.heap.size, 1, none⟩ = some (.int .i64 z2) ∧ W.cell? ⟨wo.heap.size, 2, none⟩ = some (.string Q) ∧ W.cell? ⟨wo.heap.size, 3, none⟩ = some (.string BO) ∧ W.cell? ⟨wo.heap.size, 4, none⟩ = some (.int .i64 c) ∧ Pure wb W)
        (first | with_reducible exact htt.out | with_reducible exact hT.out _ (Pure.then_ (hT2.out _ (by assumption)) (by assumption)))
        (first
          | (go_at_call 131; with_reducible refine (cD.out _).mono ?_; rintro e w2 ⟨rfl, hp2⟩)
          | (go_at_call 132; with_reducible refine (cQ.out _).mono ?_; rintro e w2 ⟨rfl, hp2⟩)
          | (go_at_call 132; with_reducible refine (cB.out _).mono ?_; rintro e w2 ⟨rfl, hp2⟩)
          | (go_at_call 61; with_reducible refine (cC.out _).mono ?_; rintro e w2 ⟨rfl, hp2⟩))
      have Hp2 := hid ((Hp.out.then_ Hwb.out).then_ (hT2.out w2 (by assumption)))
      clear hp2 htt m1 m2 m3 m4
      go_wp2
      go_roundw
      case rel => exact ⟨k + 1, by omega, by go_num, by rw [Hstep.out, ← hap.out], Hp2.out⟩
      case measure => simp [RowKit.intOf]; omega
    · have hlt' : ¬ (k : Int) < (L.length : Int) := by omega
      have e : L.take k = L := List.take_of_length_le (by omega)
      rw [e, ← hgB.out]
      have Hp := hid hp
      clear hp e
      go_wp2
      go_ret
      exact ⟨rfl, Hwz.out.then_ Hp.out⟩
end Go.Proofs.YtdlpnhfgjficgaaGreat
