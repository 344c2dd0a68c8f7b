/- The program's dot.Bytes, dot.Row, ctx.Bytes. The program's bag.Bytes. -/
import Derived.Test.YtdlpnhfgjficgaaGreatMNum
namespace Go.Proofs.YtdlpnhfgjficgaaGreat
open Go.RowKit Go.Maps

set_option maxRecDepth 8000 in
set_option maxHeartbeats 1000000 in
theorem mdbytes_any (d : Dot) (w : World) (h : Small d) :
    Calls Tryz.prog 127 #[dv d] w fun r w' => r = .returned (.string (bs (dotB d))) ∧ Pure w w' := by
  obtain ⟨x, y⟩ := d
  obtain ⟨h1, h2, h3, h4⟩ := h
  dsimp only at h1 h2 h3 h4
  have hc : ∀ W : World, Pure w W → W.cell? ⟨w.heap.size, 0, none⟩ = some (.int .i64 x) ∧ W.cell? ⟨w.heap.size, 1, none⟩ = some (.int .i64 y) → (W.cell? ⟨w.heap.size, 0, none⟩ = some (.int .i64 x) ∧ W.cell? ⟨w.heap.size, 1, none⟩ = some (.int .i64 y) ∧ Pure w W) := fun W a b => ⟨b.1, b.2, a⟩
  have hx := hid (fun W => mint_any x W h1 h2)
  have hy := hid (fun W => mint_any y W h3 h4)
  have l1 := num_len x.toNat (by omega)
  have l2 := num_len y.toNat (by omega)
  have hns : ¬ 9223372036854775807 < (bs (num x.toNat)).size + (bs (num y.toNat)).size := by rw [bs_size, bs_size]; omega
  have happ := hid (bs_append (num x.toNat) (num y.toNat))
  unfold dotB dv
  dsimp only
  clear h1 h2 h3 h4 l1 l2 hc
  generalize bs (num x.toNat) = X at *
  generalize bs (num y.toNat) = Y at *
  have hst := hid (show (w.alloc (.cells #[.int .i64 x, .int .i64 y] 28)).drew.cell? ⟨w.heap.size, 0, none⟩ = some (.int .i64 x) ∧ (w.alloc (.cells #[.int .i64 x, .int .i64 y] 28)).drew.cell? ⟨w.heap.size, 1, none⟩ = some (.int .i64 y) ∧ Pure w (w.alloc (.cells #[.int .i64 x, .int .i64 y] 28)).drew from ⟨by simp, by simp, ((Below.refl _ _).alloc (Nat.le_refl _) _).drew⟩)
  have hkeep : Hid (∀ W W' : World, Pure W W' → (W.cell? ⟨w.heap.size, 0, none⟩ = some (.int .i64 x) ∧ W.cell? ⟨w.heap.size, 1, none⟩ = some (.int .i64 y) ∧ Pure w W) → (W'.cell? ⟨w.heap.size, 0, none⟩ = some (.int .i64 x) ∧ W'.cell? ⟨w.heap.size, 1, none⟩ = some (.int .i64 y) ∧ Pure w W')) := fun W W' hp ⟨a, b, c⟩ =>
    ⟨(hp.cell (World.block_lt_of_cell? W _ a)).trans a, (hp.cell (World.block_lt_of_cell? W _ b)).trans b, c.then_ hp⟩
  go_enter Tryz.func127, Tryz.ntmps127
  go_wp2_with fail
  go_region_held3 (fun W => W.cell? ⟨w.heap.size, 0, none⟩ = some (.int .i64 x) ∧ W.cell? ⟨w.heap.size, 1, none⟩ = some (.int .i64 y) ∧ Pure w W)
    (first | exact hst.out | exact hkeep.out _ _ (by assumption) (by assumption))
    (first
      | (go_at_call 60; refine (hx.out _).mono ?_; rintro e w1 ⟨rfl, hp1⟩)
      | (go_at_call 60; refine (hy.out _).mono ?_; rintro e w1 ⟨rfl, hp1⟩))
  have hx' := hid (show w1.cell? ⟨w.heap.size, 0, none⟩ = some (.int .i64 x) ∧ w1.cell? ⟨w.heap.size, 1, none⟩ = some (.int .i64 y) ∧ Pure w w1 from by assumption)
  go_wp2
  go_ret
  exact ⟨congrArg (fun z => Ending.returned (.string z)) happ.out, hx'.out.2.2⟩

set_option maxRecDepth 8000 in
set_option maxHeartbeats 1000000 in
theorem mrow_any (v : Value) (l : List Dot) (w : World) (hr : Dots w v l) (hs : ∀ d ∈ l, Small d) (hl : l.length ≤ 1000000) :
    Calls Tryz.prog 170 #[v] w fun r w' => r = .returned (.string (bs (rowB l))) ∧ Pure w w' := by
  obtain ⟨a, cap, rfl⟩ := hr.shape
  have Hr := hid hr
  have Hs := hid hs
  have hi := hid (mint_any l.length w (by omega) (by omega))
  unfold rowB
  clear hr hs
  go_enter Tryz.func170, Tryz.ntmps170
  go_wp2_with (go_at_call 60; refine hi.out.mono ?_; rintro e w1 ⟨rfl, hp1⟩; have Hp1 := hid hp1; clear hp1)
  go_loopw [3, 5, 11] (fun s _ i wr => ∃ k : Nat, k ≤ l.length ∧ i = .int .i64 k ∧ s = .string (bs (num l.length ++ (l.take k).flatMap dotB)) ∧ Pure w wr) (fun _ _ i _ => l.length - (RowKit.intOf i).toNat)
  case atStart => exact ⟨0, Nat.zero_le _, rfl, by simp, Hp1.out⟩
  case round =>
    obtain ⟨k, hk, rfl, rfl, hp⟩ := hrel
    by_cases hlt : k < l.length
    · obtain ⟨b, off, rfl, hb, c0, c1⟩ := Dots.get (show Dots wr (.slice a l.length cap) l from Row.pure Hr.out hp) hlt
      have hlt' : (k : Int) < (l.length : Int) := by omega
      have Hstep := hid (rowB_take l k hlt)
      have hsm := Hs.out _ (mem_get_d hlt)
      have hb1 := dotB_len _ hsm
      have hb2 : ((l.take k).flatMap dotB).length ≤ 20000000 := Nat.le_trans (flatB_len (l.take k) (fun d hd => Hs.out d (List.mem_of_mem_take hd))) (by rw [List.length_take]; omega)
      have hb3 := num_len l.length (by omega)
      have hcall := hid (fun W => mdbytes_any (l.getD k (0, 0)) W hsm)
      have Hp := hid hp
      clear hp hsm
      generalize hze : l.getD k (0, 0) = z at *
      obtain ⟨z1, z2⟩ := z
      dsimp only at c0 c1
      have hns : ¬ 9223372036854775807 < (bs (num l.length ++ (l.take k).flatMap dotB)).size + (bs (dotB (z1, z2))).size := by rw [bs_size, bs_size, List.length_append]; omega
      have happ := hid (bs_append (num l.length ++ (l.take k).flatMap dotB) (dotB (z1, z2)))
      clear hb1 hb2 hb3 hze
      unfold dv at hcall
      generalize bs (dotB (z1, z2)) = Z at *
      generalize hS : bs (num l.length ++ (l.take k).flatMap dotB) = S at *
      clear hS
      go_wp2_with (go_at_call 127; refine (hcall.out _).mono ?_; rintro e w2 ⟨rfl, hp2⟩; have Hp2 := hid hp2; clear hp2)
      go_roundw
      case rel => exact ⟨k + 1, by omega, by go_num, by rw [Hstep.out, ← happ.out], (Hp.out.alloc Hp.out.size _).trans (Hp2.out.mono (by have := Hp.out.size; simp; omega))⟩
      case measure => simp [RowKit.intOf]; omega
    · have hlt' : ¬ (k : Int) < (l.length : Int) := by omega
      have e : l.take k = l := List.take_of_length_le (by omega)
      rw [e]
      have Hp := hid hp
      clear hp e
      go_wp2
      go_ret
      exact ⟨rfl, Hp.out⟩

set_option maxRecDepth 8000 in
set_option maxHeartbeats 2000000 in
theorem mcbytes_any (vb vc : Value) (B C : List Dot) (w : World) (hB : Dots w vb B) (hC : Dots w vc C) (sB : ∀ d ∈ B, Small d) (sC : ∀ d ∈ C, Small d) (lB : B.length ≤ 100000) (lC : C.length ≤ 100000) :
    Calls Tryz.prog 126 #[.agg #[vb, vc]] w fun r w' => r = .returned (.string (bs (ctxB B C))) ∧ Pure w w' := by
  obtain ⟨a, cap, rfl⟩ := hB.shape
  obtain ⟨a', cap', rfl⟩ := hC.shape
  have hx := hid (fun W (hW : Pure w W) => mrow_any _ B W (show Dots W (.slice a B.length cap) B from Row.pure hB hW) sB (by omega))
  have hy := hid (fun W (hW : Pure w W) => mrow_any _ C W (show Dots W (.slice a' C.length cap') C from Row.pure hC hW) sC (by omega))
  have l1 := rowB_len B sB lB
  have l2 := rowB_len C sC lC
  have hns : ¬ 9223372036854775807 < (bs (rowB B)).size + (bs (rowB C)).size := by rw [bs_size, bs_size]; omega
  have happ := hid (bs_append (rowB B) (rowB C))
  unfold ctxB
  clear hB hC l1 l2 sB sC lB lC
  generalize bs (rowB B) = X at *
  generalize bs (rowB C) = Y at *
  have hst := hid (show (w.alloc (.cells #[.slice a B.length cap, .slice a' C.length cap'] 32)).drew.cell? ⟨w.heap.size, 0, none⟩ = some (.slice a B.length cap) ∧ (w.alloc (.cells #[.slice a B.length cap, .slice a' C.length cap'] 32)).drew.cell? ⟨w.heap.size, 1, none⟩ = some (.slice a' C.length cap') ∧ Pure w (w.alloc (.cells #[.slice a B.length cap, .slice a' C.length cap'] 32)).drew from ⟨by simp, by simp, ((Below.refl _ _).alloc (Nat.le_refl _) _).drew⟩)
  have hkeep : Hid (∀ W W' : World, Pure W W' → (W.cell? ⟨w.heap.size, 0, none⟩ = some (.slice a B.length cap) ∧ W.cell? ⟨w.heap.size, 1, none⟩ = some (.slice a' C.length cap') ∧ Pure w W) → (W'.cell? ⟨w.heap.size, 0, none⟩ = some (.slice a B.length cap) ∧ W'.cell? ⟨w.heap.size, 1, none⟩ = some (.slice a' C.length cap') ∧ Pure w W')) := fun W W' hp ⟨a, b, c⟩ =>
    ⟨(hp.cell (World.block_lt_of_cell? W _ a)).trans a, (hp.cell (World.block_lt_of_cell? W _ b)).trans b, c.then_ hp⟩
  have hS : Hid (∀ W : World, (W.cell? ⟨w.heap.size, 0, none⟩ = some (.slice a B.length cap) ∧ W.cell? ⟨w.heap.size, 1, none⟩ = some (.slice a' C.length cap') ∧ Pure w W) → Pure w W) := fun W h => h.2.2
  go_enter Tryz.func126, Tryz.ntmps126
  go_wp2_with fail
  go_region_held3 (fun W => W.cell? ⟨w.heap.size, 0, none⟩ = some (.slice a B.length cap) ∧ W.cell? ⟨w.heap.size, 1, none⟩ = some (.slice a' C.length cap') ∧ Pure w W)
    (first | with_reducible exact hst.out | with_reducible exact hkeep.out _ _ (by assumption) (by assumption))
    (first
      | (go_at_call 170; with_reducible refine (hx.out _ (hS.out _ (by assumption))).mono ?_; rintro e w1 ⟨rfl, hp1⟩)
      | (go_at_call 170; with_reducible refine (hy.out _ (hS.out _ (by assumption))).mono ?_; rintro e w1 ⟨rfl, hp1⟩))
  have hx' := hid (show w1.cell? ⟨w.heap.size, 0, none⟩ = some (.slice a B.length cap) ∧ w1.cell? ⟨w.heap.size, 1, none⟩ = some (.slice a' C.length cap') ∧ Pure w w1 from by assumption)
  go_wp2
  go_ret
  exact ⟨congrArg (fun z => Ending.returned (.string z)) happ.out, hx'.out.2.2⟩
end Go.Proofs.YtdlpnhfgjficgaaGreat

namespace Go.Proofs.YtdlpnhfgjficgaaGreat
open Go.RowKit Go.Maps

theorem msgflat_take (p : List UInt8) (l : List Msg) (k : Nat) (h : k < l.length) : p ++ (l.take (k + 1)).flatMap msgB = (p ++ (l.take k).flatMap msgB) ++ msgB (l.getD k m0) := by
  rw [take_succ_m l k h]; simp [List.append_assoc]
set_option maxRecDepth 8000 in
set_option maxHeartbeats 4000000 in
theorem mbbytes_any (v : Value) (g : Bag) (w : World) (hat : BagAt w v g) (hsm : SmallG g) :
    Calls Tryz.prog 62 #[v] w fun e w' => e = .returned (.string (bs (bagB g))) ∧ Pure w w' := by
  obtain ⟨v0, v1, v2, rfl, h0, h1, h2⟩ := hat
  obtain ⟨L, B, C⟩ := g
  obtain ⟨sM, sB, sC, lM, lB, lC⟩ := hsm
  dsimp only at h0 h1 h2 sM sB sC lM lB lC
  obtain ⟨a0, c0, rfl⟩ := h0.shape
  obtain ⟨a1, c1, rfl⟩ := h1.shape
  obtain ⟨a2, c2, rfl⟩ := h2.shape
  have SM := hid sM
  obtain ⟨wz, hwz⟩ : ∃ wz, wz = (w.alloc (.cells #[.slice a0 L.length c0, .slice a1 B.length c1, .slice a2 C.length c2] 34)).alloc (.cells #[.pointer none, .slice none 0 0] 146) := ⟨_, rfl⟩
  have Hwz := hid (show Pure w wz from by rw [hwz]; exact ((Below.refl _ _).alloc (Nat.le_refl _) _).alloc (by simp) _)
  have b0 : wz.heap[w.heap.size]? = some (.cells #[.slice a0 L.length c0, .slice a1 B.length c1, .slice a2 C.length c2] 34 (0, 0)) := by rw [hwz]; exact block_alloc_old (block_alloc_new _ _) _
  have hBd : Bd (w.heap.size + 1) (.slice none 0 0) [] wz := by
    have := Bd.fresh (w.alloc (.cells #[.slice a0 L.length c0, .slice a1 B.length c1, .slice a2 C.length c2] 34))
    rw [World.size_alloc] at this
    rw [hwz]; exact this
  have hS : Hid (∀ W, Kept (fun k => w.heap.size + 1 ≤ k) wz W → (W.cell? ⟨w.heap.size, 0, none⟩ = some (.slice a0 L.length c0) ∧ W.cell? ⟨w.heap.size, 1, none⟩ = some (.slice a1 B.length c1) ∧ W.cell? ⟨w.heap.size, 2, none⟩ = some (.slice a2 C.length c2) ∧ Kept (fun k => w.heap.size + 1 ≤ k) wz W)) := fun W hW => by
    have e0 := (hW.block _ (lt_of_block b0) (by omega)).trans b0
    exact ⟨cell_of_block e0 0, cell_of_block e0 1, cell_of_block e0 2, hW⟩
  have hS2 : Hid (∀ W : World, (W.cell? ⟨w.heap.size, 0, none⟩ = some (.slice a0 L.length c0) ∧ W.cell? ⟨w.heap.size, 1, none⟩ = some (.slice a1 B.length c1) ∧ W.cell? ⟨w.heap.size, 2, none⟩ = some (.slice a2 C.length c2) ∧ Kept (fun k => w.heap.size + 1 ≤ k) wz W) → Kept (fun k => w.heap.size + 1 ≤ k) wz W) := fun W h => h.2.2.2
  have hst := hid (hS.out wz.drew (Kept.refl _ _).drew)
  have lt0 := hid (Row.lt h0)
  have lt1 := Row.lt h1
  have lt2 := Row.lt h2
  have HL := hid (show Msgs wz (.slice a0 L.length c0) L from Row.pure h0 Hwz.out)
  have hctx := hid (fun W (hW : Kept (fun k => w.heap.size + 1 ≤ k) wz W) => mcbytes_any _ _ B C W (show Dots W (.slice a1 B.length c1) B from Row.kept (Row.pure h1 Hwz.out) hW (fun k hk e => by have := lt1 k hk; omega)) (show Dots W (.slice a2 C.length c2) C from Row.kept (Row.pure h2 Hwz.out) hW (fun k hk e => by have := lt2 k hk; omega)) sB sC lB lC)
  have hint := hid (fun W => mint_any (L.length : Int) W (by omega) (by omega))
  have n1 : ¬ 9223372036854775807 < (bs (ctxB B C)).size + (bs (num L.length)).size := by
    have := rowB_len B sB lB
    have := rowB_len C sC lC
    have := num_len L.length (by omega)
    rw [bs_size, bs_size]; unfold ctxB; rw [List.length_append]; omega
  have hlp : (ctxB B C ++ num L.length).length ≤ 5000000 := by
    have := rowB_len B sB lB
    have := rowB_len C sC lC
    have := num_len L.length (by omega)
    unfold ctxB; rw [List.length_append, List.length_append]; omega
  have hgB := hid (show bagB (L, B, C) = (ctxB B C ++ num L.length) ++ L.flatMap msgB from rfl)
  have hwr := hid (fun W (h : Bd (w.heap.size + 1) (.slice none 0 0) [] W) => (show Calls Tryz.prog 125 #[.pointer (some ⟨w.heap.size + 1, 0, none⟩), .string (bs (ctxB B C) ++ bs (num L.length))] W (fun e w' => e = .returned (.tuple #[.int .i64 ((ctxB B C ++ num L.length).length : Int), .nilIface]) ∧ ∃ v', Bd (w.heap.size + 1) v' ([] ++ (ctxB B C ++ num L.length)) w' ∧ Kept (fun k => k = w.heap.size + 1 ∨ (Value.slice none 0 0).ownBlock = some k) W w') from by rw [bs_append]; exact bwrite_any _ _ [] _ W h (by simp only [List.length_nil]; omega)))
  rw [Int.toNat_natCast] at hint
  generalize hP : ctxB B C ++ num L.length = P at *
  generalize bs (ctxB B C) = X at *
  generalize bs (num L.length) = Y at *
  clear hP b0 h0 h1 h2 sM sB sC lt1 lt2
  go_enter Tryz.func62, Tryz.ntmps62
  go_wp2_with fail
  rw [← hwz]
  clear hwz
  have hB1 : Bd (w.heap.size + 1) (.slice none 0 0) [] wz.drew := hBd.pure (Below.refl _ _).drew
  go_region_held3 (fun W => W.cell? ⟨w.heap.size, 0, none⟩ = some (.slice a0 L.length c0) ∧ W.cell? ⟨w.heap.size, 1, none⟩ = some (.slice a1 B.length c1) ∧ W.cell? ⟨w.heap.size, 2, none⟩ = some (.slice a2 C.length c2) ∧ Kept (fun k => w.heap.size + 1 ≤ k) wz W)
    (first | with_reducible exact hst.out | with_reducible exact hS.out _ (Kept.trans (hS2.out _ (by assumption)) (Pure.kept (by assumption))) | with_reducible exact hS.out _ (Kept.trans (hS2.out _ (by assumption)) (by assumption)))
    (first
      | (go_at_call 126; with_reducible refine (hctx.out _ (hS2.out _ (by assumption))).mono ?_; rintro e w1 ⟨rfl, hp1⟩; have hB2 : Bd (w.heap.size + 1) (.slice none 0 0) [] w1 := Bd.pure (by assumption) hp1)
      | (go_at_call 60; with_reducible refine (hint.out _).mono ?_; rintro e w1 ⟨rfl, hp1⟩; have hB2 : Bd (w.heap.size + 1) (.slice none 0 0) [] w1 := Bd.pure (by assumption) hp1)
      | (go_at_call 125; with_reducible refine (hwr.out _ (by assumption)).mono ?_; rintro e w1 ⟨rfl, v1, hB3, hk1⟩; have hk2 : Kept (fun k => w.heap.size + 1 ≤ k) _ w1 := hk1.mono (fun k _ e => by simp [Value.ownBlock] at e; omega)))
  have Hk := hid (hS2.out w1 (by assumption))
  have HB := hid (show Bd (w.heap.size + 1) v1 P w1 by simpa using hB3)
  clear hk1 hk2 hst n1 hB1 hB3 hBd
  obtain ⟨f0, -, -, -⟩ := hS.out w1 Hk.out
  go_wp2
  clear f0
  go_loopw [5, 18] (fun _ i wr => ∃ (k : Nat) (v : Value), k ≤ L.length ∧ i = .int .i64 k ∧ Bd (w.heap.size + 1) v (P ++ (L.take k).flatMap msgB) wr ∧ Kept (fun k => w.heap.size + 1 ≤ k) wz wr) (fun _ i _ => L.length - (RowKit.intOf i).toNat)
  case atStart => exact ⟨0, v1, Nat.zero_le _, rfl, by simpa using HB.out, Hk.out⟩
  case round =>
    obtain ⟨k, v, hk, rfl, hbd, hp⟩ := hrel
    by_cases hlt : k < L.length
    · obtain ⟨b, off, rfl, hb, d0, d1, d2, d3, d4⟩ := Msgs.get (show Msgs wr (.slice a0 L.length c0) L from Row.kept HL.out hp (fun k hk e => by have := lt0.out k hk; omega)) hlt
      have hlt' : (k : Int) < (L.length : Int) := by omega
      have Hstep := hid (msgflat_take P L k hlt)
      have hsmz := SM.out _ (mem_get_m hlt)
      have hfl := flatM_len (L.take k) (fun d hd => SM.out d (List.mem_of_mem_take hd))
      rw [List.length_take] at hfl
      have hpl : (P ++ (L.take k).flatMap msgB).length ≤ 300000000 := by rw [List.length_append]; omega
      have hml := msgB_len _ hsmz
      generalize P ++ (L.take k).flatMap msgB = A at *
      generalize L.getD k m0 = z at *
      obtain ⟨⟨z1, z2⟩, q, bo, c⟩ := z
      obtain ⟨s1, s2, s3, s4, s5⟩ := hsmz
      dsimp only at d0 d1 d2 d3 d4 s1 s2 s3 s4 s5 Hstep
      have k1 := dotB_len _ s1
      have k2 := textB_len q s4
      have k3 := textB_len bo s5
      have k4 := num_len c.toNat (by omega)
      have cD := hid (fun W => mdbytes_any (z1, z2) W s1)
      have cQ := hid (fun W => mtext_any q W (by omega))
      have cB := hid (fun W => mtext_any bo W (by omega))
      have cC := hid (fun W => mint_any c W s2 s3)
      have hap : (((bs (dotB (z1, z2))) ++ bs (textB q)) ++ bs (textB bo)) ++ bs (num c.toNat) = bs (msgB ((z1, z2), q, bo, c)) := by
        rw [bs_append, bs_append, bs_append]; rfl
      have hwr := hid (fun W (h : Bd (w.heap.size + 1) v A W) => (show Calls Tryz.prog 125 #[.pointer (some ⟨w.heap.size + 1, 0, none⟩), .string ((((bs (dotB (z1, z2))) ++ bs (textB q)) ++ bs (textB bo)) ++ bs (num c.toNat))] W (fun e w' => e = .returned (.tuple #[.int .i64 ((msgB ((z1, z2), q, bo, c)).length : Int), .nilIface]) ∧ ∃ v', Bd (w.heap.size + 1) v' (A ++ msgB ((z1, z2), q, bo, c)) w' ∧ Kept (fun k => k = w.heap.size + 1 ∨ v.ownBlock = some k) W w') from by rw [hap]; exact bwrite_any _ _ A _ W h (by omega)))
      have m2 : ¬ 9223372036854775807 < (bs (dotB (z1, z2))).size + (bs (textB q)).size := by rw [bs_size, bs_size]; omega
      have m3 : ¬ 9223372036854775807 < (bs (dotB (z1, z2))).size + (bs (textB q)).size + (bs (textB bo)).size := by rw [bs_size, bs_size, bs_size]; omega
      have m4 : ¬ 9223372036854775807 < (bs (dotB (z1, z2))).size + (bs (textB q)).size + (bs (textB bo)).size + (bs (num c.toNat)).size := by rw [bs_size, bs_size, bs_size, bs_size]; omega
      have Hp := hid hp
      have Hbd := hid hbd
      have hltb := hbd.lt
      have hnv : ∀ g, v.ownBlock = some g → w.heap.size + 1 < g ∧ g < wr.heap.size := fun g hg => hbd.row.lt g hg
      obtain ⟨wo, rfl⟩ : ∃ wo : World, wo = wr := ⟨_, rfl⟩
      clear hp hpl hfl k1 k2 k3 k4 s1 s2 s3 s4 s5 hap hml hbd
      unfold dv at cD
      dsimp only at cD
      have eq1 : num q.length ++ q = textB q := rfl
      have eq2 : num bo.length ++ bo = textB bo := rfl
      rw [eq1] at cQ
      rw [eq2] at cB
      clear eq1 eq2
      generalize bs (dotB (z1, z2)) = SD at *
      generalize bs (textB q) = SQ at *
      generalize bs (textB bo) = SB at *
      generalize bs (num c.toNat) = SC at *
      generalize bs q = Q at *
      generalize bs bo = BO at *
      obtain ⟨wb, hwb⟩ : ∃ wb, wb = wo.alloc (.cells #[.int .i64 z1, .int .i64 z2, .string Q, .string BO, .int .i64 c] 43) := ⟨_, rfl⟩
      have Hwb := hid (show Pure wo wb from by rw [hwb]; exact (Below.refl _ _).alloc (Nat.le_refl _) _)
      have bb : wb.heap[wo.heap.size]? = some (.cells #[.int .i64 z1, .int .i64 z2, .string Q, .string BO, .int .i64 c] 43 (0, 0)) := by rw [hwb]; exact block_alloc_new _ _
      have hT : Hid (∀ W, Kept (fun k => k = w.heap.size + 1 ∨ v.ownBlock = some k) wb W → (W.cell? ⟨wo.heap.size, 0, none⟩ = some (.int .i64 z1) ∧ W.cell? ⟨wo.heap.size, 1, none⟩ = some (.int .i64 z2) ∧ W.cell? ⟨wo.heap.size, 2, none⟩ = some (.string Q) ∧ W.cell? ⟨wo.heap.size, 3, none⟩ = some (.string BO) ∧ W.cell? ⟨wo.heap.size, 4, none⟩ = some (.int .i64 c) ∧ Kept (fun k => k = w.heap.size + 1 ∨ v.ownBlock = some k) wb W)) := fun W hW => by
        have e0 := (hW.block _ (lt_of_block bb) (fun e => by rcases e with e | e; · omega
                                                             · have := hnv _ e; omega)).trans bb
        exact ⟨cell_of_block e0 0, cell_of_block e0 1, cell_of_block e0 2, cell_of_block e0 3, cell_of_block e0 4, hW⟩
      have hT2 : Hid (∀ W : World, (W.cell? ⟨wo.heap.size, 0, none⟩ = some (.int .i64 z1) ∧ W.cell? ⟨wo.heap.size, 1, none⟩ = some (.int .i64 z2) ∧ W.cell? ⟨wo.heap.size, 2, none⟩ = some (.string Q) ∧ W.cell? ⟨wo.heap.size, 3, none⟩ = some (.string BO) ∧ W.cell? ⟨wo.heap.size, 4, none⟩ = some (.int .i64 c) ∧ Kept (fun k => k = w.heap.size + 1 ∨ v.ownBlock = some k) wb W) → Kept (fun k => k = w.heap.size + 1 ∨ v.ownBlock = some k) wb W) := fun W h => h.2.2.2.2.2
      have htt := hid (hT.out wb.drew (Kept.refl _ _).drew)
      have hB0 : Bd (w.heap.size + 1) v A wb.drew := (Hbd.out.pure Hwb.out).pure (Below.refl _ _).drew
      have hnv' := hid hnv
      clear bb hnv
      go_wp2_with fail
      rw [← hwb]
      clear hwb d0 d1 d2 d3 d4
      go_region_held3 (fun W => W.cell? ⟨wo.heap.size, 0, none⟩ = some (.int .i64 z1) ∧ W.cell? ⟨wo.heap.size, 1, none⟩ = some (.int .i64 z2) ∧ W.cell? ⟨wo.heap.size, 2, none⟩ = some (.string Q) ∧ W.cell? ⟨wo.heap.size, 3, none⟩ = some (.string BO) ∧ W.cell? ⟨wo.heap.size, 4, none⟩ = some (.int .i64 c) ∧ Kept (fun k => k = w.heap.size + 1 ∨ v.ownBlock = some k) wb W)
        (first | with_reducible exact htt.out | with_reducible exact hT.out _ (Kept.trans (hT2.out _ (by assumption)) (Pure.kept (by assumption))) | with_reducible exact hT.out _ (Kept.trans (hT2.out _ (by assumption)) (by assumption)))
        (first
          | (go_at_call 127; with_reducible refine (cD.out _).mono ?_; rintro e w2 ⟨rfl, hp2⟩; have hB2 : Bd (w.heap.size + 1) v A w2 := Bd.pure (by assumption) hp2)
          | (go_at_call 128; with_reducible refine (cQ.out _).mono ?_; rintro e w2 ⟨rfl, hp2⟩; have hB2 : Bd (w.heap.size + 1) v A w2 := Bd.pure (by assumption) hp2)
          | (go_at_call 128; with_reducible refine (cB.out _).mono ?_; rintro e w2 ⟨rfl, hp2⟩; have hB2 : Bd (w.heap.size + 1) v A w2 := Bd.pure (by assumption) hp2)
          | (go_at_call 60; with_reducible refine (cC.out _).mono ?_; rintro e w2 ⟨rfl, hp2⟩; have hB2 : Bd (w.heap.size + 1) v A w2 := Bd.pure (by assumption) hp2)
          | (go_at_call 125; with_reducible refine (hwr.out _ (by assumption)).mono ?_; rintro e w2 ⟨rfl, v2, hB3, hk1⟩))
      have HB3 := hid hB3
      have Hkk := hid (hT2.out w2 (by assumption))
      have Hk2 := hid (show Kept (fun k => w.heap.size + 1 ≤ k) wz w2 from (Hp.out.trans Hwb.out.kept).trans (Hkk.out.mono (fun k _ e => by
        rcases e with e | e
        · omega
        · have := hnv'.out _ e; omega)))
      clear htt m2 m3 m4 hB0 hB3 hk1
      go_wp2
      go_roundw
      case rel => exact ⟨k + 1, v2, by omega, by go_num, by rw [Hstep.out]; exact HB3.out, Hk2.out⟩
      case measure => simp [RowKit.intOf]; omega
    · have hlt' : ¬ (k : Int) < (L.length : Int) := by omega
      have e : L.take k = L := List.take_of_length_le (by omega)
      rw [e, ← hgB.out] at hbd
      have hstr := hid (Tryz.Builder_String_any (w.heap.size + 1) (w.heap.size + 1) (bagB (L, B, C)) wr hbd.is (Nat.le_of_lt hbd.lt))
      have Hp := hid hp
      clear hp e hbd
      go_wp2_with fail
      refine hstr.out.mono ?_
      rintro e w2 ⟨rfl, hp2⟩
      have Hp2 := hid hp2
      clear hp2
      go_wp2
      go_ret
      exact ⟨rfl, Below.trans Hwz.out (((Hp.out.mono (fun k _ e => (show w.heap.size ≤ k by omega))).below Hwz.out.size (fun k hk e => by omega)).trans (Hp2.out.mono (by omega)))⟩
end Go.Proofs.YtdlpnhfgjficgaaGreat

