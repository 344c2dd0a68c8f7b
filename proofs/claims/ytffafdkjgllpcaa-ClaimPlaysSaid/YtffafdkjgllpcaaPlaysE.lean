/- ref16's Yes, told by the program's claim. -/
import Derived.Test.YtffafdkjgllpcaaPlaysD
namespace Go.Proofs.Ytffafdkjgllpcaa
open Go.RowKit Go.Maps

/-- A row's head and its tail, taken by the slice's own words. -/
theorem slice_pre {w : World} {a : Option Addr} {n cap : Nat} {Y : List Int} (h : Ints w (.slice a n cap) Y) {k : Nat} (hk : k ≤ Y.length) (hp : a = none ∨ ∃ b o, a = some ⟨b, o, none⟩) :
    ∃ v1, (∀ W, (Instr.slice 22 (.slice a n cap) none (some (.int .i64 k)) none).run Try.prog W = .ok v1 W) ∧ ∀ W, Ints W (.slice a n cap) Y → Ints W v1 (Y.take k) := by
  obtain ⟨rfl, h1, h2, hc⟩ := h.cell
  refine ⟨.slice a k cap, fun W => ?_, fun W hW => ?_⟩
  · have := run_slice_h (P := Try.prog) (w := W) 22 a Y.length cap Try.underlying22 .i64 (k : Int) (by omega) (by omega)
    rw [this]
    rcases hp with rfl | ⟨b, o, rfl⟩
    · simp [sliced, go_sem]
    · by_cases hz : cap = 0
      · simp [sliced, go_sem, hz]
      · simp [sliced, go_sem, Addr.add]
  · rcases hp with rfl | ⟨b, o, rfl⟩
    · rcases hc with ⟨rfl, rfl⟩ | ⟨_, _, e, _⟩
      · obtain rfl : k = 0 := by simpa using hk
        exact Row.nil W 1
      · cases e
    · exact ints_pre hW hk
theorem slice_suf {w : World} {a : Option Addr} {n cap : Nat} {Y : List Int} (h : Ints w (.slice a n cap) Y) {k : Nat} (hk : k ≤ Y.length) (hp : a = none ∨ ∃ b o, a = some ⟨b, o, none⟩) :
    ∃ v1, (∀ W, (Instr.slice 22 (.slice a n cap) (some (.int .i64 k)) none none).run Try.prog W = .ok v1 W) ∧ ∀ W, Ints W (.slice a n cap) Y → Ints W v1 (Y.drop k) := by
  obtain ⟨rfl, h1, h2, hc⟩ := h.cell
  rcases hp with rfl | ⟨b, o, rfl⟩
  · rcases hc with ⟨rfl, rfl⟩ | ⟨_, _, e, _⟩
    · obtain rfl : k = 0 := by simpa using hk
      refine ⟨.slice none 0 0, fun W => ?_, fun W _ => Row.nil W 1⟩
      have := run_slice_l (P := Try.prog) (w := W) 22 none 0 0 Try.underlying22 .i64 (0 : Int) (by omega) (by omega)
      refine Eq.trans this ?_
      simp [sliced, go_sem]
    · cases e
  · by_cases hz : cap = k
    · obtain rfl : cap = Y.length := by omega
      refine ⟨.slice (some ⟨b, o, none⟩) (Y.length - k) 0, fun W => ?_, fun W _ => ⟨by simp, some ⟨b, o, none⟩, 0, by simp, by simp; omega, by simp, .inl rfl⟩⟩
      rw [run_slice_l (P := Try.prog) (w := W) 22 (some ⟨b, o, none⟩) Y.length Y.length Try.underlying22 .i64 (k : Int) (by omega) (by omega)]
      simp [sliced, go_sem, hz]
    · refine ⟨.slice (some ⟨b, o + k, none⟩) (Y.length - k) (cap - k), fun W => ?_, fun W hW => ints_suf hW hk⟩
      rw [run_slice_l (P := Try.prog) (w := W) 22 (some ⟨b, o, none⟩) Y.length cap Try.underlying22 .i64 (k : Int) (by omega) (by omega)]
      simp [sliced, go_sem, hz, Addr.add]
theorem srt_perm {l k : List Int} (h : l.Perm k) : srt l = srt k := by
  have tr : ∀ a b c : Int, decide (a ≤ b) = true → decide (b ≤ c) = true → decide (a ≤ c) = true := fun a b c h1 h2 => by simp only [decide_eq_true_eq] at *; omega
  have to : ∀ a b : Int, (decide (a ≤ b) || decide (b ≤ a)) = true := fun a b => by simp only [Bool.or_eq_true, decide_eq_true_eq]; omega
  refine List.Perm.eq_of_pairwise (le := fun a b => decide (a ≤ b) = true) (fun a b _ _ h1 h2 => ?_) (List.pairwise_mergeSort tr to l) (List.pairwise_mergeSort tr to k) (((List.mergeSort_perm l _).trans h).trans (List.mergeSort_perm k _).symm)
  simp only [decide_eq_true_eq] at h1 h2
  omega
theorem srt_sorted (l : List Int) : (srt l).Pairwise (fun x y => x ≤ y) := by
  have := List.pairwise_mergeSort (le := fun (x y : Int) => decide (x ≤ y)) (by intro a b c; simp; omega) (by intro a b; simp; omega) l
  exact this.imp (fun {a b} h => by simpa using h)
theorem srt_of {l : List Int} (h : l.Pairwise (fun x y => x ≤ y)) : srt l = l := by
  unfold srt; exact List.mergeSort_of_pairwise (h.imp (fun {a b} h => by simpa using h))
theorem ins_srt {y : List Int} {x : Int} {k : Nat} (h1 : ∀ z ∈ (srt y).drop k, x ≤ z) (h2 : ∀ z ∈ (srt y).take k, z ≤ x) : (srt y).take k ++ [x] ++ (srt y).drop k = srt (y ++ [x]) := by
  have hs := srt_sorted y
  have hp : (srt y).Perm y := List.mergeSort_perm _ _
  have hs2 : ((srt y).take k ++ [x] ++ (srt y).drop k).Pairwise (fun x y => x ≤ y) := by
    have h0 := hs
    rw [← List.take_append_drop k (srt y)] at h0
    obtain ⟨p1, p2, p3⟩ := List.pairwise_append.1 h0
    refine List.pairwise_append.2 ⟨List.pairwise_append.2 ⟨p1, by simp, fun a ha b hb => ?_⟩, p2, fun a ha b hb => ?_⟩
    · simp at hb; subst hb; exact h2 a ha
    · rcases List.mem_append.1 ha with ha | ha
      · exact p3 a ha b hb
      · simp at ha; subst ha; exact h1 b hb
  rw [← srt_of hs2]
  refine srt_perm ?_
  have : ((srt y).take k ++ [x] ++ (srt y).drop k).Perm ((srt y) ++ [x]) := by
    rw [List.append_assoc]
    refine (List.Perm.append_left _ List.perm_append_comm).trans ?_
    rw [← List.append_assoc, List.take_append_drop]
  exact this.trans (hp.append_right _)
theorem srt_none {l : List Int} {k : Nat} {x : Int} (hl : l.Pairwise (fun x y => x ≤ y)) (hk : k < l.length) (h : l.getD k 0 ≤ x) : ∀ z ∈ l.take (k + 1), z ≤ x := by
  intro z hz
  rw [take_succ_get l k hk, List.mem_append] at hz
  rcases hz with hz | hz
  · rw [← List.take_append_drop k l] at hl
    have := (List.pairwise_append.1 hl).2.2 z hz (l.getD k 0) (by rw [List.mem_drop_iff_getElem]; exact ⟨0, by omega, by simp [List.getD, hk]⟩)
    omega
  · simp only [List.mem_singleton] at hz; omega

theorem filter_take16 {l : List Int} {k : Nat} (p : Int → Bool) (h : k < l.length) : (l.take (k + 1)).filter p = if p (l.getD k 0) then (l.take k).filter p ++ [l.getD k 0] else (l.take k).filter p := by
  rw [take_succ_get l k h, List.filter_append]
  generalize l.getD k 0 = x
  cases hp : p x
  · simp [hp]
  · simp [hp]
theorem getD_le {l : List Int} {k : Nat} {x : Int} (h : ¬ x < l.getD k 0) : l.getD k 0 ≤ x := by omega

set_option maxHeartbeats 2000000 in
theorem ryes_of (b ba bs : Nat) (vo : Value) (r : RC) (w : World) (h : RCAt w b ba bs vo r) (P : Int → Bool) (hP : ∀ i, i < r.owners.length → (r.ans.getD i false && r.said.getD i false) = P (r.owners.getD i 0)) :
    Calls Try.prog 24 #[.pointer (some ⟨b, 0, none⟩)] w fun e w' => ∃ v', e = .returned v' ∧ Ints w' v' (srt (r.owners.filter P)) ∧ Pure w w' := by
  have c6 : ∀ W, Pure w W → W.cell? ⟨b, 6, none⟩ = some vo := fun W hW => (hW.cell (lt_of_block h.blk)).trans (cell_of_block h.blk 6)
  have c7 : ∀ W, Pure w W → W.cell? ⟨b, 7, none⟩ = some (.slice (some ⟨ba, 0, none⟩) r.owners.length r.owners.length) := fun W hW => (hW.cell (lt_of_block h.blk)).trans (cell_of_block h.blk 7)
  have c8 : ∀ W, Pure w W → W.cell? ⟨b, 8, none⟩ = some (.slice (some ⟨bs, 0, none⟩) r.owners.length r.owners.length) := fun W hW => (hW.cell (lt_of_block h.blk)).trans (cell_of_block h.blk 8)
  have ha : Hid (∀ W, Pure w W → ∀ i, i < r.owners.length → W.cell? ⟨ba, i, none⟩ = some (.bool (r.ans.getD i false))) := fun W hW i hi => (hW.cell (lt_of_block h.ans)).trans (bool_cell h.ans (by rw [h.alen]; exact hi))
  have hs : Hid (∀ W, Pure w W → ∀ i, i < r.owners.length → W.cell? ⟨bs, i, none⟩ = some (.bool (r.said.getD i false))) := fun W hW i hi => (hW.cell (lt_of_block h.said)).trans (bool_cell h.said (by rw [h.slen]; exact hi))
  obtain ⟨a, cap, rfl⟩ := h.own.shape
  have hl := h.olen
  have C6 := hid c6
  have C7 := hid c7
  have C8 := hid c8
  have Hown := hid h.own
  have HP := hid hP
  clear h c6 c7 c8 hP
  go_enter Try.func24, Try.ntmps24
  go_wp2
  go_loopw [3, 4] (fun v i wr => ∃ k : Nat, k ≤ r.owners.length ∧ i = .int .i64 k ∧ wr.ownsRow w.heap.size 3 1 v ((r.owners.take k).filter P).length ((srt ((r.owners.take k).filter P)).map (Value.int .i64)) ∧ Pure w wr) (fun _ i _ => r.owners.length - (RowKit.intOf i).toNat)
  case atStart => exact ⟨0, Nat.zero_le _, rfl, by simpa [srt] using World.ownsRow_nil _ _ _ _, Below.refl _ _⟩
  case round =>
    obtain ⟨k, hk, rfl, hown, hb⟩ := hrel
    have k6 := C6.out wr hb
    by_cases hlt : k < r.owners.length
    · have k7 := C7.out wr hb
      have k8 := C8.out wr hb
      have ka := ha.out wr hb k hlt
      have ks := hs.out wr hb k hlt
      obtain ⟨bo, oo, rfl, hcx⟩ := ints_get (show Ints wr (.slice a r.owners.length cap) r.owners from Row.pure Hown.out hb) hlt
      have hft := hid (filter_take16 P hlt)
      have hpx := hid (HP.out k hlt)
      have hfl : ((r.owners.take k).filter P).length ≤ 64 := Nat.le_trans (List.length_filter_le _ _) (by rw [List.length_take]; omega)
      have hlt' : (k : Int) < (r.owners.length : Int) := by omega
      have Hown1 := hid hown
      have Hb := hid hb
      clear hown hb
      generalize r.owners.getD k 0 = x at *
      generalize r.ans.getD k false = A at *
      generalize r.said.getD k false = S at *
      obtain ⟨y, hy⟩ : ∃ y, y = (r.owners.take k).filter P := ⟨_, rfl⟩
      rw [← hy] at hft hfl Hown1
      clear hy
      have hlY : (srt y).length = y.length := srt_len y
      obtain ⟨a3, c3, rfl⟩ := own_shape Hown1.out
      by_cases hyes : A = true ∧ S = true
      · obtain ⟨rfl, rfl⟩ := hyes
        have HPx := hid (show P x = true from hpx.out.symm)
        have HIY : Hid (∀ W, Pure wr W → Ints W (.slice a3 y.length c3) (srt y)) := fun W hW => by
          have := Row.pure (Row.of_own Hown1.out) hW
          unfold Ints; rw [hlY]; exact this
        obtain hpl := own_plain Hown1.out
        have Hpl : Hid (a3 = none ∨ ∃ b o, a3 = some ⟨b, o, none⟩) := by
          obtain ⟨p, n, c, e, h⟩ := hpl; cases e; exact h
        have Hsort := hid (srt_sorted y)
        generalize hYe : srt y = Y at *
        have HYe := hid hYe
        clear hYe
        go_wp2
        go_loopw [5] (fun kk wq => ∃ j : Nat, j ≤ Y.length ∧ kk = .int .i64 j ∧ (∀ z ∈ Y.drop j, x ≤ z) ∧ ∃ n, wq = wr.drewN n) (fun kk _ => (RowKit.intOf kk).toNat)
        case atStart => exact ⟨Y.length, Nat.le_refl _, by rw [hlY], by simp, 0, rfl⟩
        case round =>
          obtain ⟨j, hj, rfl, hd, n, rfl⟩ := hrel
          have hpn : Pure wr (wr.drewN n) := pure_drewN _ _
          by_cases hgo : 0 < j ∧ x < Y.getD (j - 1) 0
          · obtain ⟨i, rfl⟩ : ∃ i, j = i + 1 := ⟨j - 1, by omega⟩
            obtain ⟨bb, ob, rfl, hx⟩ := ints_get (HIY.out _ (Below.refl _ _)) (show i < Y.length by omega)
            have hgt : x < Y.getD i 0 := hgo.2
            have Hd := hid (drop_step (by omega) hd hgt)
            have h1 : ((i : Int) + 1) - 1 = i := by omega
            have h2 : (0 : Int) < (i : Int) + 1 := by omega
            have h3 : (i : Int) < (y.length : Int) := by omega
            clear hd hgo
            generalize Y.getD i 0 = z at *
            go_wp2_with fail
            go_quiet (fail)
            go_wp2
            go_roundw
            case rel => exact ⟨i, by omega, by go_num, Hd.out, _, rfl⟩
            case measure => simp [RowKit.intOf]
          · have hfin : ∀ z ∈ Y.take j, z ≤ x := by
              cases j with
              | zero => simp
              | succ i => exact srt_none Hsort.out (by omega) (getD_le (fun h => hgo ⟨by omega, h⟩))
            have hcase : j = 0 ∨ ∃ i, j = i + 1 ∧ ¬ x < Y.getD i 0 := by
              cases j with
              | zero => exact .inl rfl
              | succ i => exact .inr ⟨i, rfl, fun h => hgo ⟨by omega, h⟩⟩
            have Hfin := hid hfin
            have Hd := hid hd
            clear hfin hd hgo
            obtain ⟨v1, hv1, hi1⟩ := slice_pre (HIY.out _ (Below.refl _ _)) hj Hpl.out
            obtain ⟨v2, hv2, hi2⟩ := slice_suf (HIY.out _ (Below.refl _ _)) hj Hpl.out
            have Hi1 : Hid (∀ W, Pure wr W → Ints W v1 (Y.take j)) := fun W hW => hi1 W (HIY.out W hW)
            have Hi2 : Hid (∀ W, Pure wr W → Ints W v2 (Y.drop j)) := fun W hW => hi2 W (HIY.out W hW)
            clear hi1 hi2
            have hlt1 : (Y.take j).length = j := by simp; omega
            have hlt2 : (Y.take j ++ [x]).length = j + 1 := by simp; omega
            have hlt3 : (Y.drop j).length = y.length - j := by simp; omega
            have hbs : w.heap.size ≤ wr.heap.size := Hb.out.size
            have hbo : bo < wr.heap.size := World.block_lt_of_cell? wr _ hcx
            have Hcx := hid hcx
            have Hv1 := hid hv1
            have Hv2 := hid hv2
            clear hv1 hv2
            have hfinish : Hid (∀ (wE : World) (v3 : Value), wE.ownsRow wr.heap.size 3 1 v3 (j + 1 + (y.length - j)) ((Y.take j ++ [x] ++ Y.drop j).map (Value.int .i64)) → wE.ownsRow w.heap.size 3 1 v3 ((r.owners.take (k + 1)).filter P).length ((srt ((r.owners.take (k + 1)).filter P)).map (Value.int .i64))) := fun wE v3 h => by
              have e1 : (r.owners.take (k + 1)).filter P = y ++ [x] := by rw [hft.out, HPx.out]; rfl
              have e2 : Y.take j ++ [x] ++ Y.drop j = srt (y ++ [x]) := by
                have h1 := Hd.out
                have h2 := Hfin.out
                rw [← HYe.out] at h1 h2 ⊢
                exact ins_srt h1 h2
              have hown := own_mono h hbs
              rw [e1, ← e2, List.length_append, List.length_singleton, show y.length + 1 = j + 1 + (y.length - j) by omega]
              exact hown
            rcases hcase with rfl | ⟨i, rfl, hlti⟩
            · go_wp2_with fail
              go_quiet (fail)
              have hv1 : ∀ W, (Instr.slice 22 (.slice a3 y.length c3) none (some (.int .i64 0)) none).run Try.prog W = .ok v1 W := Hv1.out
              have hv2 : ∀ W, (Instr.slice 22 (.slice a3 y.length c3) (some (.int .i64 0)) none none).run Try.prog W = .ok v2 W := Hv2.out
              generalize Value.slice a3 y.length c3 = V at hv1 hv2 ⊢
              go_wp2_with (at_builtin; refine wpList_append_n rfl _ _ rfl wr.heap.size (.slice none 0 0) [] 0 rfl rfl (World.ownsRow_nil _ _ _ _) _ (Y.take 0) 0 hlt1 rfl (Hi1.out _ (pure_drewN _ _)) (by omega) (Nat.le_refl _) ?_)
              intro v3 w3 hown3 hg3
              have Hown3 := hid (show w3.ownsRow wr.heap.size 3 1 v3 0 ((Y.take 0).map (Value.int .i64)) by simpa using hown3)
              have Hg3 := hid (show Pure wr w3 from (pure_drewN _ _).grown hg3 (Nat.le_refl _) (fun k hk => by simp [Value.ownBlock] at hk))
              obtain ⟨a4, c4, rfl⟩ := own_shape Hown3.out
              clear hown3 hg3
              have q6 : w3.cell? ⟨b, 6, none⟩ = some (.slice (some ⟨bo, oo, none⟩) r.owners.length cap) := C6.out w3 (Hb.out.then_ Hg3.out)
              have qx : w3.cell? ⟨bo, oo + k, none⟩ = some (.int .i64 x) := (Hg3.out.cell hbo).trans Hcx.out
              have b1 : wr.heap.size ≤ (w3.alloc (.cells #[.int .i64 x] 3)).heap.size := by have := Hg3.out.size; simp; omega
              go_wp2_with (at_builtin; refine wpList_append_n rfl _ _ rfl wr.heap.size _ (Y.take 0) 0 hlt1 rfl (Hown3.out.alloc _) _ [x] 1 rfl rfl (ints_lit (w := w3) (l := [x]) (show 1 ≤ maxLen by decide)) (by omega) b1 ?_)
              intro v4 w4 hown4 hg4
              have Hown4 := hid (show w4.ownsRow wr.heap.size 3 1 v4 (0 + 1) ((Y.take 0 ++ [x]).map (Value.int .i64)) by simpa using hown4)
              have Hg4 := hid (show Pure wr w4 from (Hg3.out.alloc Hg3.out.size _).grown hg4 (by have := Hg3.out.size; simp; omega) (fun k hk => (Hown3.out.lt k hk).1))
              have Hg4' : Hid (Ints w4 v2 (Y.drop 0)) := Hi2.out _ Hg4.out
              obtain ⟨a5, c5, rfl⟩ := own_shape Hown4.out
              clear hown4 hg4 b1
              go_wp2_with (at_builtin; refine wpList_append_n rfl _ _ rfl wr.heap.size _ (Y.take 0 ++ [x]) (0 + 1) hlt2 rfl Hown4.out _ (Y.drop 0) (y.length - 0) hlt3 rfl Hg4'.out (by omega) Hg4.out.size ?_)
              intro v5 w5 hown5 hg5
              have Hown5 := hid (show w5.ownsRow wr.heap.size 3 1 v5 (0 + 1 + (y.length - 0)) ((Y.take 0 ++ [x] ++ Y.drop 0).map (Value.int .i64)) by simpa using hown5)
              have Hg5 := hid (Hg4.out.grown hg5 Hg4.out.size (fun k hk => (Hown4.out.lt k hk).1))
              obtain ⟨a6, c6, rfl⟩ := own_shape Hown5.out
              clear hown5 hg5
              go_wp2
              go_roundw
              case rel => exact ⟨k + 1, by omega, by go_num, hfinish.out _ _ Hown5.out, Hb.out.then_ Hg5.out⟩
              case measure => simp [RowKit.intOf]; omega
            · obtain ⟨bb, ob, rfl, hx⟩ := ints_get (HIY.out _ (Below.refl _ _)) (show i < Y.length by omega)
              have h1 : ((i : Int) + 1) - 1 = i := by omega
              have h2 : (0 : Int) < (i : Int) + 1 := by omega
              have h3 : (i : Int) < (y.length : Int) := by omega
              have h4 : ¬ x < Y.getD i 0 := hlti
              clear hlti
              generalize Y.getD i 0 = z at *
              go_wp2_with fail
              go_quiet (fail)
              have hv1 : ∀ W, (Instr.slice 22 (.slice (some ⟨bb, ob, none⟩) y.length c3) none (some (.int .i64 ((i : Int) + 1))) none).run Try.prog W = .ok v1 W := Hv1.out
              have hv2 : ∀ W, (Instr.slice 22 (.slice (some ⟨bb, ob, none⟩) y.length c3) (some (.int .i64 ((i : Int) + 1))) none none).run Try.prog W = .ok v2 W := Hv2.out
              generalize Value.slice (some ⟨bb, ob, none⟩) y.length c3 = V at hv1 hv2 ⊢
              go_wp2_with (at_builtin; refine wpList_append_n rfl _ _ rfl wr.heap.size (.slice none 0 0) [] 0 rfl rfl (World.ownsRow_nil _ _ _ _) _ (Y.take (i + 1)) (i + 1) hlt1 rfl (Hi1.out _ (pure_drewN _ _)) (by omega) (Nat.le_refl _) ?_)
              intro v3 w3 hown3 hg3
              have Hown3 := hid (show w3.ownsRow wr.heap.size 3 1 v3 (i + 1) ((Y.take (i + 1)).map (Value.int .i64)) by simpa using hown3)
              have Hg3 := hid (show Pure wr w3 from (pure_drewN _ _).grown hg3 (Nat.le_refl _) (fun k hk => by simp [Value.ownBlock] at hk))
              obtain ⟨a4, c4, rfl⟩ := own_shape Hown3.out
              clear hown3 hg3
              have q6 : w3.cell? ⟨b, 6, none⟩ = some (.slice (some ⟨bo, oo, none⟩) r.owners.length cap) := C6.out w3 (Hb.out.then_ Hg3.out)
              have qx : w3.cell? ⟨bo, oo + k, none⟩ = some (.int .i64 x) := (Hg3.out.cell hbo).trans Hcx.out
              have b1 : wr.heap.size ≤ (w3.alloc (.cells #[.int .i64 x] 3)).heap.size := by have := Hg3.out.size; simp; omega
              go_wp2_with (at_builtin; refine wpList_append_n rfl _ _ rfl wr.heap.size _ (Y.take (i + 1)) (i + 1) hlt1 rfl (Hown3.out.alloc _) _ [x] 1 rfl rfl (ints_lit (w := w3) (l := [x]) (show 1 ≤ maxLen by decide)) (by omega) b1 ?_)
              intro v4 w4 hown4 hg4
              have Hown4 := hid (show w4.ownsRow wr.heap.size 3 1 v4 (i + 1 + 1) ((Y.take (i + 1) ++ [x]).map (Value.int .i64)) by simpa using hown4)
              have Hg4 := hid (show Pure wr w4 from (Hg3.out.alloc Hg3.out.size _).grown hg4 (by have := Hg3.out.size; simp; omega) (fun k hk => (Hown3.out.lt k hk).1))
              have Hg4' : Hid (Ints w4 v2 (Y.drop (i + 1))) := Hi2.out _ Hg4.out
              obtain ⟨a5, c5, rfl⟩ := own_shape Hown4.out
              clear hown4 hg4 b1
              go_wp2_with (at_builtin; refine wpList_append_n rfl _ _ rfl wr.heap.size _ (Y.take (i + 1) ++ [x]) (i + 1 + 1) hlt2 rfl Hown4.out _ (Y.drop (i + 1)) (y.length - (i + 1)) hlt3 rfl Hg4'.out (by omega) Hg4.out.size ?_)
              intro v5 w5 hown5 hg5
              have Hown5 := hid (show w5.ownsRow wr.heap.size 3 1 v5 (i + 1 + 1 + (y.length - (i + 1))) ((Y.take (i + 1) ++ [x] ++ Y.drop (i + 1)).map (Value.int .i64)) by simpa using hown5)
              have Hg5 := hid (Hg4.out.grown hg5 Hg4.out.size (fun k hk => (Hown4.out.lt k hk).1))
              obtain ⟨a6, c6, rfl⟩ := own_shape Hown5.out
              clear hown5 hg5
              go_wp2
              go_roundw
              case rel => exact ⟨k + 1, by omega, by go_num, hfinish.out _ _ Hown5.out, Hb.out.then_ Hg5.out⟩
              case measure => simp [RowKit.intOf]; omega
      · have HPx := hid (show P x = false by rw [← hpx.out]; cases A <;> cases S <;> first | rfl | exact absurd ⟨rfl, rfl⟩ hyes)
        have Hyes := hid hyes
        generalize hYe : srt y = Y at *
        have HYe := hid hYe
        clear hYe
        clear hyes
        cases A <;> cases S <;> first
          | exact absurd ⟨rfl, rfl⟩ Hyes.out
          | (go_wp2
             go_roundw
             case rel => exact ⟨k + 1, by omega, by go_num, by rw [hft.out, HPx.out]; simp only [Bool.false_eq_true, if_false]; rw [HYe.out]; exact Hown1.out, Hb.out⟩
             case measure => simp [RowKit.intOf]; omega)
    · have e : r.owners.take k = r.owners := List.take_of_length_le (by omega)
      rw [e] at hown
      have hlY : (srt (r.owners.filter P)).length = (r.owners.filter P).length := srt_len _
      have Hown1 := hid hown
      have Hb := hid hb
      obtain ⟨a3, c3, rfl⟩ := own_shape hown
      clear hown hb e
      go_wp2
      go_ret
      exact ⟨_, rfl, by unfold Ints; rw [hlY]; exact Row.of_own Hown1.out, Hb.out⟩
end Go.Proofs.Ytffafdkjgllpcaa
