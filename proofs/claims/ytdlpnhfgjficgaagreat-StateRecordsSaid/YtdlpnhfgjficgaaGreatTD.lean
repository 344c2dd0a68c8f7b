/- A catalogue's bytes, by both. -/
import Derived.Test.YtdlpnhfgjficgaaGreatMTx
import Derived.Test.YtdlpnhfgjficgaaGreatMBy
import Derived.Test.YtdlpnhfgjficgaaGreatBagB
namespace Go.Proofs.YtdlpnhfgjficgaaGreat
open Go.RowKit Go.Maps Go.Shelf

theorem mtextB_any (s : List UInt8) (w : World) (hn : s.length ≤ 1000000) :
    Calls Tryz.prog 128 #[.string (bs s)] w fun e w' => e = .returned (.string (bs (textB s))) ∧ Pure w w' := mtext_any s w hn
theorem rtextB_any (s : List UInt8) (w : World) (hn : s.length ≤ 1000000) :
    Calls Tryz.prog 132 #[.string (bs s)] w fun e w' => e = .returned (.string (bs (textB s))) ∧ Pure w w' := rtext_any s w hn
theorem tagsB_take (l : List Tag) (k : Nat) (h : k < l.length) : (num l.length ++ (l.take (k + 1)).flatMap tagB) = (num l.length ++ (l.take k).flatMap tagB) ++ tagB (l.getD k t0) := by
  rw [take_succ_g t0 l k h, List.flatMap_append]; simp
theorem tagB_len {t : Tag} (h : tmay t = true) : (tagB t).length ≤ 100 := by
  have hn := tmay_n h
  unfold tmay at h
  simp only [Bool.and_eq_true, decide_eq_true_eq] at h
  have h1 := num_len t.1.length (by omega)
  have h2 := num_len t.2.toNat (by omega)
  unfold tagB textB
  simp only [List.length_append]
  omega
theorem flatT_len (l : List Tag) (h : ∀ d ∈ l, tmay d = true) : (l.flatMap tagB).length ≤ 100 * l.length := by
  induction l with
  | nil => simp
  | cons a l ih =>
    have := tagB_len (h a (by simp))
    have := ih (fun d hd => h d (by simp [hd]))
    simp only [List.flatMap_cons, List.length_append, List.length_cons]; omega

set_option maxRecDepth 8000 in
set_option maxHeartbeats 2000000 in
theorem tbytes_any (v : Value) (l : List Tag) (w : World) (hr : Tags w v l) (hs : ∀ d ∈ l, tmay d = true) (hl : l.length ≤ 100000) :
    Calls Tryz.prog 64 #[v] w fun r w' => r = .returned (.string (bs (tagsB l))) ∧ Pure w w' := by
  obtain ⟨a, cap, rfl⟩ := hr.shape
  have Hr := hid hr
  have Hs := hid hs
  have hi := hid (mint_any l.length w (by omega) (by omega))
  unfold tagsB
  clear hr hs
  go_enter Tryz.func64, Tryz.ntmps64
  go_wp2_with (go_at_call 60; refine hi.out.mono ?_; rintro e w1 ⟨rfl, hp1⟩; have Hp1 := hid hp1; clear hp1)
  go_loopw [3, 5, 11] (fun s _ i wr => ∃ k : Nat, k ≤ l.length ∧ i = .int .i64 k ∧ s = .string (bs (num l.length ++ (l.take k).flatMap tagB)) ∧ Pure w wr) (fun _ _ i _ => l.length - (RowKit.intOf i).toNat)
  case atStart => exact ⟨0, Nat.zero_le _, rfl, by simp, Hp1.out⟩
  case round =>
    obtain ⟨k, hk, rfl, rfl, hp⟩ := hrel
    by_cases hlt : k < l.length
    · obtain ⟨b, off, rfl, hb, c0, c1⟩ := Tags.get (show Tags wr (.slice a l.length cap) l from Row.pure Hr.out hp) hlt
      have hlt' : (k : Int) < (l.length : Int) := by omega
      have Hstep := hid (tagsB_take l k hlt)
      have hsm := Hs.out _ (mem_get_g (z := t0) hlt)
      have hb1 := tagB_len hsm
      have hb2 : ((l.take k).flatMap tagB).length ≤ 10000000 := Nat.le_trans (flatT_len (l.take k) (fun d hd => Hs.out d (List.mem_of_mem_take hd))) (by rw [List.length_take]; omega)
      have hb3 := num_len l.length (by omega)
      have hn := tmay_n hsm
      have hx := hid (fun W => mtextB_any (l.getD k t0).1 W (by unfold tagB textB at hb1; simp only [List.length_append] at hb1; omega))
      have hy := hid (fun W => mint_any (l.getD k t0).2 W (by omega) (by omega))
      have Hp := hid hp
      clear hp hsm hn
      generalize l.getD k t0 = z at *
      obtain ⟨zs, zn⟩ := z
      dsimp only at c0 c1 hx hy
      have hb1 : (textB zs ++ num zn.toNat).length ≤ 100 := hb1
      have Hstep := hid (show num l.length ++ (l.take (k + 1)).flatMap tagB = (num l.length ++ (l.take k).flatMap tagB) ++ (textB zs ++ num zn.toNat) from Hstep.out)
      have hns : ¬ 9223372036854775807 < (bs (textB zs)).size + (bs (num zn.toNat)).size := by rw [bs_size, bs_size]; simp only [List.length_append] at hb1; omega
      have hns2 : ¬ 9223372036854775807 < (bs (num l.length ++ (l.take k).flatMap tagB)).size + ((bs (textB zs)).size + (bs (num zn.toNat)).size) := by rw [bs_size, bs_size, bs_size, List.length_append]; simp only [List.length_append] at hb1; omega
      have happ := hid (show bs (num l.length ++ (l.take k).flatMap tagB) ++ (bs (textB zs) ++ bs (num zn.toNat)) = bs ((num l.length ++ (l.take k).flatMap tagB) ++ (textB zs ++ num zn.toNat)) from by rw [bs_append, bs_append])
      clear hb1 hb2 hb3
      have hst := hid (show (wr.alloc (.cells #[.string (bs zs), .int .i64 zn] 90)).drew.cell? ⟨wr.heap.size, 0, none⟩ = some (.string (bs zs)) ∧ (wr.alloc (.cells #[.string (bs zs), .int .i64 zn] 90)).drew.cell? ⟨wr.heap.size, 1, none⟩ = some (.int .i64 zn) ∧ Pure wr (wr.alloc (.cells #[.string (bs zs), .int .i64 zn] 90)).drew from ⟨by simp, by simp, ((Below.refl _ _).alloc (Nat.le_refl _) _).drew⟩)
      have hkeep : Hid (∀ W W' : World, Pure W W' → (W.cell? ⟨wr.heap.size, 0, none⟩ = some (.string (bs zs)) ∧ W.cell? ⟨wr.heap.size, 1, none⟩ = some (.int .i64 zn) ∧ Pure wr W) → (W'.cell? ⟨wr.heap.size, 0, none⟩ = some (.string (bs zs)) ∧ W'.cell? ⟨wr.heap.size, 1, none⟩ = some (.int .i64 zn) ∧ Pure wr W')) := fun W W' hp ⟨a, b, c⟩ =>
        ⟨(hp.cell (World.block_lt_of_cell? W _ a)).trans a, (hp.cell (World.block_lt_of_cell? W _ b)).trans b, c.then_ hp⟩
      generalize bs (textB zs) = X at *
      generalize bs (num zn.toNat) = Y at *
      generalize hS : bs (num l.length ++ (l.take k).flatMap tagB) = S at *
      clear hS
      go_wp2_with fail
      go_region_held3 (fun W => W.cell? ⟨wr.heap.size, 0, none⟩ = some (.string (bs zs)) ∧ W.cell? ⟨wr.heap.size, 1, none⟩ = some (.int .i64 zn) ∧ Pure wr W)
        (first | exact hst.out | exact hkeep.out _ _ (by assumption) (by assumption))
        (first
          | (go_at_call 128; refine (hx.out _).mono ?_; rintro e w2 ⟨rfl, hp2⟩)
          | (go_at_call 60; refine (hy.out _).mono ?_; rintro e w2 ⟨rfl, hp2⟩))
      all_goals
        have hx' := hid (show w2.cell? ⟨wr.heap.size, 0, none⟩ = some (.string (bs zs)) ∧ w2.cell? ⟨wr.heap.size, 1, none⟩ = some (.int .i64 zn) ∧ Pure wr w2 from by assumption)
        clear hst hkeep hx hy
        go_wp2
        go_roundw
        (case rel => exact ⟨k + 1, by omega, by go_num, by rw [Hstep.out, ← happ.out], Hp.out.then_ hx'.out.2.2⟩)
        (case measure => simp [RowKit.intOf]; omega)
    · have hlt' : ¬ (k : Int) < (l.length : Int) := by omega
      have e : l.take k = l := List.take_of_length_le (by omega)
      rw [e]
      have Hp := hid hp
      clear hp e
      go_wp2
      go_ret
      exact ⟨rfl, Hp.out⟩
set_option maxRecDepth 8000 in
set_option maxHeartbeats 2000000 in
theorem rtbytes_any (v : Value) (l : List Tag) (w : World) (hr : Tags w v l) (hs : ∀ d ∈ l, tmay d = true) (hl : l.length ≤ 100000) :
    Calls Tryz.prog 65 #[v] w fun r w' => r = .returned (.string (bs (tagsB l))) ∧ Pure w w' := by
  obtain ⟨a, cap, rfl⟩ := hr.shape
  have Hr := hid hr
  have Hs := hid hs
  have hi := hid (rint_any l.length w (by omega) (by omega))
  unfold tagsB
  clear hr hs
  go_enter Tryz.func65, Tryz.ntmps65
  go_wp2_with (go_at_call 61; refine hi.out.mono ?_; rintro e w1 ⟨rfl, hp1⟩; have Hp1 := hid hp1; clear hp1)
  go_loopw [3, 4] (fun s i wr => ∃ k : Nat, k ≤ l.length ∧ i = .int .i64 k ∧ s = .string (bs (num l.length ++ (l.take k).flatMap tagB)) ∧ Pure w wr) (fun _ i _ => l.length - (RowKit.intOf i).toNat)
  case atStart => exact ⟨0, Nat.zero_le _, rfl, by simp, Hp1.out⟩
  case round =>
    obtain ⟨k, hk, rfl, rfl, hp⟩ := hrel
    by_cases hlt : k < l.length
    · obtain ⟨b, off, rfl, hb, c0, c1⟩ := Tags.get (show Tags wr (.slice a l.length cap) l from Row.pure Hr.out hp) hlt
      have hlt' : (k : Int) < (l.length : Int) := by omega
      have Hstep := hid (tagsB_take l k hlt)
      have hsm := Hs.out _ (mem_get_g (z := t0) hlt)
      have hb1 := tagB_len hsm
      have hb2 : ((l.take k).flatMap tagB).length ≤ 10000000 := Nat.le_trans (flatT_len (l.take k) (fun d hd => Hs.out d (List.mem_of_mem_take hd))) (by rw [List.length_take]; omega)
      have hb3 := num_len l.length (by omega)
      have hn := tmay_n hsm
      have hx := hid (fun W => rtextB_any (l.getD k t0).1 W (by unfold tagB textB at hb1; simp only [List.length_append] at hb1; omega))
      have hy := hid (fun W => rint_any (l.getD k t0).2 W (by omega) (by omega))
      have Hp := hid hp
      clear hp hsm hn
      generalize l.getD k t0 = z at *
      obtain ⟨zs, zn⟩ := z
      dsimp only at c0 c1 hx hy
      have hb1 : (textB zs ++ num zn.toNat).length ≤ 100 := hb1
      have Hstep := hid (show num l.length ++ (l.take (k + 1)).flatMap tagB = (num l.length ++ (l.take k).flatMap tagB) ++ (textB zs ++ num zn.toNat) from Hstep.out)
      have hns : ¬ 9223372036854775807 < (bs (num l.length ++ (l.take k).flatMap tagB)).size + (bs (textB zs)).size := by rw [bs_size, bs_size, List.length_append]; simp only [List.length_append] at hb1; omega
      have hns2 : ¬ 9223372036854775807 < (bs (num l.length ++ (l.take k).flatMap tagB)).size + (bs (textB zs)).size + (bs (num zn.toNat)).size := by rw [bs_size, bs_size, bs_size, List.length_append]; simp only [List.length_append] at hb1; omega
      have happ := hid (show bs (num l.length ++ (l.take k).flatMap tagB) ++ bs (textB zs) ++ bs (num zn.toNat) = bs ((num l.length ++ (l.take k).flatMap tagB) ++ (textB zs ++ num zn.toNat)) from by rw [bs_append, bs_append, List.append_assoc])
      clear hb1 hb2 hb3
      have hst := hid (show wr.drew.cell? ⟨b, off + k * 2, none⟩ = some (.string (bs zs)) ∧ wr.drew.cell? ⟨b, off + k * 2 + 1, none⟩ = some (.int .i64 zn) ∧ Pure wr wr.drew from ⟨c0, c1, (Below.refl _ _).drew⟩)
      have hkeep : Hid (∀ W W' : World, Pure W W' → (W.cell? ⟨b, off + k * 2, none⟩ = some (.string (bs zs)) ∧ W.cell? ⟨b, off + k * 2 + 1, none⟩ = some (.int .i64 zn) ∧ Pure wr W) → (W'.cell? ⟨b, off + k * 2, none⟩ = some (.string (bs zs)) ∧ W'.cell? ⟨b, off + k * 2 + 1, none⟩ = some (.int .i64 zn) ∧ Pure wr W')) := fun W W' hp ⟨a, b, c⟩ =>
        ⟨(hp.cell (World.block_lt_of_cell? W _ a)).trans a, (hp.cell (World.block_lt_of_cell? W _ b)).trans b, c.then_ hp⟩
      generalize bs (textB zs) = X at *
      generalize bs (num zn.toNat) = Y at *
      generalize hS : bs (num l.length ++ (l.take k).flatMap tagB) = S at *
      clear hS
      go_wp2_with fail
      go_region_held3 (fun W => W.cell? ⟨b, off + k * 2, none⟩ = some (.string (bs zs)) ∧ W.cell? ⟨b, off + k * 2 + 1, none⟩ = some (.int .i64 zn) ∧ Pure wr W)
        (first | exact hst.out | exact hkeep.out _ _ (by assumption) (by assumption))
        (first
          | (go_at_call 132; refine (hx.out _).mono ?_; rintro e w2 ⟨rfl, hp2⟩)
          | (go_at_call 61; refine (hy.out _).mono ?_; rintro e w2 ⟨rfl, hp2⟩))
      all_goals
        have hx' := hid (show w2.cell? ⟨b, off + k * 2, none⟩ = some (.string (bs zs)) ∧ w2.cell? ⟨b, off + k * 2 + 1, none⟩ = some (.int .i64 zn) ∧ Pure wr w2 from by assumption)
        clear hst hkeep hx hy
        go_wp2
        go_roundw
        (case rel => exact ⟨k + 1, by omega, by go_num, by rw [Hstep.out, ← happ.out], Hp.out.then_ hx'.out.2.2⟩)
        (case measure => simp [RowKit.intOf]; omega)
    · have hlt' : ¬ (k : Int) < (l.length : Int) := by omega
      have e : l.take k = l := List.take_of_length_le (by omega)
      rw [e]
      have Hp := hid hp
      clear hp e
      go_wp2
      go_ret
      exact ⟨rfl, Hp.out⟩
end Go.Proofs.YtdlpnhfgjficgaaGreat
