import Derived.Test.YthghccccjmbjlaaRefB
namespace Go.Proofs.Ythghccccjmbjlaa
open Go.RowKit Go.Maps

theorem wpList_append_n {ops : Array Oper} {rest : List Oper} {o : Oper} {a : Act} {Q : Exit → Act → World → Prop} {w : World} (hgd : o.guard = none) (s x : Operand)
    (ho : o.op = .call { callee := .builtin .append, args := #[s, x], argTypes := #[22, 22] }) (base : Nat) (v : Value) (xs : List Int) (n : Nat) (hn : xs.length = n) (hs : a.eval s = v)
    (hown : w.ownsRow base 3 1 v n (xs.map (Value.int .i64))) (u : Value) (k : List Int) (m : Nat) (hm : k.length = m) (hx : a.eval x = u) (hu : Ints w u k) (hlen : n + m ≤ 1000000) (hbase : base ≤ w.heap.size)
    (h : ∀ v' w', w'.ownsRow base 3 1 v' (n + m) ((xs ++ k).map (Value.int .i64)) → w.grownBy w' v.ownBlock → wpList Try.prog ops Q rest (a.put o.dst v') w') : wpList Try.prog ops Q (o :: rest) a w := by
  subst hn; subst hm
  exact wpList_append_ints hgd s x ho base v xs hs hown u k hx hu hlen hbase (fun v' w' q1 q2 => h v' w' (by rw [List.length_append] at q1; exact q1) q2)
theorem own_plain {w : World} {base n : Nat} {v : Value} {xs : List Value} (h : w.ownsRow base 3 1 v n xs) : ∃ p n c, v = .slice p n c ∧ (p = none ∨ ∃ g o, p = some ⟨g, o, none⟩) := by
  obtain ⟨_, ⟨rfl, _⟩ | ⟨g, cap, cur, rfl, _⟩⟩ := h
  · exact ⟨_, _, _, rfl, .inl rfl⟩
  · exact ⟨_, _, _, rfl, .inr ⟨_, _, rfl⟩⟩
theorem own_shape {w : World} {base n : Nat} {v : Value} {xs : List Value} (h : w.ownsRow base 3 1 v n xs) : ∃ a c, v = .slice a n c := (Row.of_own h).shape

set_option maxHeartbeats 1000000 in
theorem ryes_old (b : Nat) (vo vy : Value) (o Y : List Int) (need x : Int) (w : World) (h : RefAt w b vo vy ⟨o, need, Y⟩) (hm : x ∈ Y) :
    Calls Try.prog 25 #[.pointer (some ⟨b, 0, none⟩), .int .i64 x] w fun e w' => e = .returned (.bool false) ∧ w = w' := by
  have k2 : w.cell? ⟨b, 2, none⟩ = some vy := cell_of_block h.blk 2
  have hh := has_any vy Y x w h.yes
  rw [decide_eq_true hm] at hh
  have Hh := hid hh
  obtain ⟨a, cap, rfl⟩ := h.yes.shape
  clear hm hh h
  go_enter Try.func25, Try.ntmps25
  go_wp2_with (go_at_call 32; refine Hh.out.mono ?_; rintro e w' ⟨rfl, rfl⟩)
  go_ret
  exact ⟨rfl, rfl⟩

set_option maxHeartbeats 1000000 in
theorem ryes_new (b : Nat) (vo vy : Value) (o Y : List Int) (need x : Int) (w : World) (h : RefAt w b vo vy ⟨o, need, Y⟩) (hY : Y.Pairwise fun x y => x ≤ y) (hl : Y.length < 1000) (hm : x ∉ Y) :
    Calls Try.prog 25 #[.pointer (some ⟨b, 0, none⟩), .int .i64 x] w fun e w' => e = .returned (.bool true) ∧ ∃ vy' k, (∀ z ∈ Y.drop k, x ≤ z) ∧ (∀ z ∈ Y.take k, z ≤ x) ∧ k ≤ Y.length ∧ RefAt w' b vo vy' ⟨o, need, Y.take k ++ [x] ++ Y.drop k⟩ ∧ Kept (fun k => k = b) w w' ∧ (∀ k, vy'.rb = some k → w.heap.size ≤ k) := by
  have k2 : w.cell? ⟨b, 2, none⟩ = some vy := cell_of_block h.blk 2
  have f2 : w.frozen? ⟨b, 2, none⟩ = false := free_of_block h.blk 2
  have hbw := lt_of_block h.blk
  have hh := has_any vy Y x w h.yes
  rw [decide_eq_false hm] at hh
  have Hh := hid hh
  obtain ⟨a, cap, rfl⟩ := h.yes.shape
  have HY := hid h.yes
  have H := hid h
  have Hs := hid hY
  clear hm hh h hY
  go_enter Try.func25, Try.ntmps25
  go_wp2_with (go_at_call 32; refine Hh.out.mono ?_; rintro e w' ⟨rfl, rfl⟩)
  go_loop [6] (fun i => ∃ k : Nat, k ≤ Y.length ∧ i = .int .i64 k ∧ (∀ z ∈ Y.drop k, x ≤ z)) (fun i => (RowKit.intOf i).toNat)
  case atStart => exact ⟨_, Nat.le_refl _, rfl, by simp⟩
  case round =>
    obtain ⟨k, hk, rfl, hd⟩ := hrel
    by_cases hgo : 0 < k ∧ x < Y.getD (k - 1) 0
    · obtain ⟨j, rfl⟩ : ∃ j, k = j + 1 := ⟨k - 1, by omega⟩
      obtain ⟨ba, oa, rfl, hx⟩ := ints_get HY.out (show j < Y.length by omega)
      have hgt : x < Y.getD j 0 := hgo.2
      have Hd := hid (drop_step (by omega) hd hgt)
      have h1 : ((j : Int) + 1) - 1 = j := by omega
      have h2 : (0 : Int) < (j : Int) + 1 := by omega
      have h3 : (j : Int) < (Y.length : Int) := by omega
      clear hd hgo
      generalize Y.getD j 0 = z at *
      go_wp2
      go_round
      case rel => exact ⟨j, by omega, by go_num, Hd.out⟩
      case measure => simp [RowKit.intOf]
    · have hfin : ∀ z ∈ Y.take k, z ≤ x := by
        cases k with
        | zero => simp
        | succ j => exact srt_none Hs.out (by omega) (by have : ¬ x < Y.getD j 0 := fun h => hgo ⟨by omega, h⟩; omega)
      have hcase : k = 0 ∨ ∃ j, k = j + 1 ∧ ¬ x < Y.getD j 0 := by
        cases k with
        | zero => exact .inl rfl
        | succ j => exact .inr ⟨j, rfl, fun h => hgo ⟨by omega, h⟩⟩
      have Hfin := hid hfin
      have Hd := hid hd
      clear hfin hd hgo
      cases a with
      | none =>
        obtain ⟨rfl, rfl⟩ : Y = [] ∧ cap = 0 := by
          rcases HY.out.cell.2.2.2 with h | ⟨_, _, e, _⟩
          · exact h
          · cases e
        obtain rfl : k = 0 := by simpa using hk
        have K2 := hid k2
        have F2 := hid f2
        go_wp2_with (at_builtin; refine wpList_append_n rfl _ _ rfl w.heap.size (.slice none 0 0) [] 0 rfl rfl (World.ownsRow_nil _ _ _ _) _ [] 0 rfl rfl (Row.nil w 1) (by omega) (Nat.le_refl _) ?_)
        intro v1 w1 hown1 hg1
        have Hown1 := hid (show w1.ownsRow w.heap.size 3 1 v1 0 (([] : List Int).map (Value.int .i64)) by simpa using hown1)
        have Hg1 := hid (show Pure w w1 from (Below.refl _ _).grown hg1 (Nat.le_refl _) (fun k hk => by simp [Value.ownBlock] at hk))
        obtain ⟨a1, c1, rfl⟩ := own_shape Hown1.out
        clear hown1 hg1
        have b1 : w.heap.size ≤ (w1.alloc (.cells #[.int .i64 x] 3)).heap.size := by have := Hg1.out.size; simp; omega
        go_wp2_with (at_builtin; refine wpList_append_n rfl _ _ rfl w.heap.size _ [] 0 rfl rfl (Hown1.out.alloc _) _ [x] 1 rfl rfl (ints_lit (w := w1) (l := [x]) (show 1 ≤ maxLen by decide)) (by omega) b1 ?_)
        intro v2 w2 hown2 hg2
        have Hown2 := hid (show w2.ownsRow w.heap.size 3 1 v2 1 ([x].map (Value.int .i64)) by simpa using hown2)
        have Hg2 := hid ((Hg1.out.alloc Hg1.out.size _).grown hg2 (by have := Hg1.out.size; simp; omega) (fun k hk => (Hown1.out.lt k hk).1))
        obtain ⟨a2, c2, rfl⟩ := own_shape Hown2.out
        have q2 : w2.cell? ⟨b, 2, none⟩ = some (.slice none 0 0) := (Hg2.out.cell hbw).trans K2.out
        clear hown2 hg2 b1
        go_wp2_with (at_builtin; refine wpList_append_n rfl _ _ rfl w.heap.size _ [x] 1 rfl rfl Hown2.out _ [] 0 rfl rfl (Row.nil w2 1) (by omega) Hg2.out.size ?_)
        intro v3 w3 hown3 hg3
        have Hown3 := hid (show w3.ownsRow w.heap.size 3 1 v3 1 ([x].map (Value.int .i64)) by simpa using hown3)
        have Hg3 := hid (Hg2.out.grown hg3 Hg2.out.size (fun k hk => (Hown2.out.lt k hk).1))
        obtain ⟨a3, c3, rfl⟩ := own_shape Hown3.out
        have q3 : w3.cell? ⟨b, 2, none⟩ = some (.slice none 0 0) := (Hg3.out.cell hbw).trans K2.out
        have f3 : w3.frozen? ⟨b, 2, none⟩ = false := (Hg3.out.frozen hbw).trans F2.out
        clear hown3 hg3 q2
        go_wp2
        go_ret
        have hblk3 : w3.heap[b]? = some (.cells #[vo, I need, .slice none 0 0] 32 (0, 0)) := (Hg3.out.block _ hbw).trans H.out.blk
        have hK := (Pure.kept (S := fun k => k = b) Hg3.out).setCell (p := ⟨b, 2, none⟩) (fun _ => rfl) (.slice a3 1 c3)
        have hI3 : Ints (w3.setCell ⟨b, 2, none⟩ (.slice a3 1 c3)) (.slice a3 1 c3) [x] := Row.of_own (ownsRow_setCell_below Hown3.out (by exact hbw) _)
        refine ⟨rfl, _, 0, Hd.out, Hfin.out, Nat.le_refl _, ⟨by simpa using block_setCell hblk3 2 _, H.out.own.kept hK (fun k hk hb => H.out.sepo (by rw [hk, hb])), hI3, H.out.sepo, fun e => ?_, own_plain Hown3.out, H.out.olen, by show (1 : Nat) ≤ 1000; omega⟩, hK, fun k hk => (Hown3.out.lt k (rb_own hk)).1⟩
        have := (Hown3.out.lt _ (rb_own e)).1; omega
      | some ad =>
        obtain ⟨ba, oa, rfl⟩ : ∃ ba oa, ad = ⟨ba, oa, none⟩ := by
          obtain ⟨_, _, _, e, h | ⟨g, o, h⟩⟩ := H.out.plain
          · cases e; cases h
          · cases e; cases h; exact ⟨_, _, rfl⟩
        have Hpre := hid (ints_pre HY.out hk)
        have Hsuf := hid (ints_suf HY.out hk)
        have hkc : k ≤ cap := by have := HY.out.cell.2.1; omega
        have Hsuf0 := hid (fun h : cap = k => (show Ints w (.slice (some ⟨ba, oa, none⟩) (Y.length - k) 0) (Y.drop k) from ⟨by simp, some ⟨ba, oa, none⟩, 0, by simp, by have := HY.out.cell.2.1; simp; omega, by simp, .inl rfl⟩))
        have hkz : (k : Int) ≤ (Y.length : Int) := by omega
        have K2 := hid k2
        have F2 := hid f2
        rcases hcase with hk0 | ⟨j, rfl, hlt⟩
        · have h0 : ¬ (0 : Int) < (k : Int) := by omega
          clear hk0
          rcases Nat.eq_or_lt_of_le hkc with hkc | hkc
          · have HS := hid (Hsuf0.out hkc.symm)
            subst hkc
            have hlt1 : (Y.take k).length = k := by simp; omega
            have hlt2 : (Y.take k ++ [x]).length = k + 1 := by simp; omega
            have hlt3 : (Y.drop k).length = Y.length - k := by simp
            have hlt4 : (Y.take k ++ [x] ++ Y.drop k).length = k + 1 + (Y.length - k) := by simp; omega
            go_wp2_with (at_builtin; refine wpList_append_n rfl _ _ rfl w.heap.size (.slice none 0 0) [] 0 rfl rfl (World.ownsRow_nil _ _ _ _) _ (Y.take k) k hlt1 rfl Hpre.out (by omega) (Nat.le_refl _) ?_)
            intro v1 w1 hown1 hg1
            have Hown1 := hid (show w1.ownsRow w.heap.size 3 1 v1 k ((Y.take k).map (Value.int .i64)) by simpa using hown1)
            have Hg1 := hid (show Pure w w1 from (Below.refl _ _).grown hg1 (Nat.le_refl _) (fun k hk => by simp [Value.ownBlock] at hk))
            obtain ⟨a1, c1, rfl⟩ := own_shape Hown1.out
            clear hown1 hg1
            have b1 : w.heap.size ≤ (w1.alloc (.cells #[.int .i64 x] 3)).heap.size := by have := Hg1.out.size; simp; omega
            go_wp2_with (at_builtin; refine wpList_append_n rfl _ _ rfl w.heap.size _ (Y.take k) k hlt1 rfl (Hown1.out.alloc _) _ [x] 1 rfl rfl (ints_lit (w := w1) (l := [x]) (show 1 ≤ maxLen by decide)) (by omega) b1 ?_)
            intro v2 w2 hown2 hg2
            have Hown2 := hid (show w2.ownsRow w.heap.size 3 1 v2 (k + 1) ((Y.take k ++ [x]).map (Value.int .i64)) by simpa using hown2)
            have Hg2 := hid ((Hg1.out.alloc Hg1.out.size _).grown hg2 (by have := Hg1.out.size; simp; omega) (fun k hk => (Hown1.out.lt k hk).1))
            obtain ⟨a2, c2, rfl⟩ := own_shape Hown2.out
            have q2 : w2.cell? ⟨b, 2, none⟩ = some (.slice (some ⟨ba, oa, none⟩) Y.length k) := (Hg2.out.cell hbw).trans K2.out
            clear hown2 hg2 b1
            go_wp2_with (at_builtin; refine wpList_append_n rfl _ _ rfl w.heap.size _ (Y.take k ++ [x]) (k + 1) hlt2 rfl Hown2.out _ (Y.drop k) (Y.length - k) hlt3 rfl (HS.out.pure Hg2.out) (by omega) Hg2.out.size ?_)
            intro v3 w3 hown3 hg3
            have Hown3 := hid (show w3.ownsRow w.heap.size 3 1 v3 (k + 1 + (Y.length - k)) ((Y.take k ++ [x] ++ Y.drop k).map (Value.int .i64)) by simpa using hown3)
            have Hg3 := hid (Hg2.out.grown hg3 Hg2.out.size (fun k hk => (Hown2.out.lt k hk).1))
            obtain ⟨a3, c3, rfl⟩ := own_shape Hown3.out
            have q3 : w3.cell? ⟨b, 2, none⟩ = some (.slice (some ⟨ba, oa, none⟩) Y.length k) := (Hg3.out.cell hbw).trans K2.out
            have f3 : w3.frozen? ⟨b, 2, none⟩ = false := (Hg3.out.frozen hbw).trans F2.out
            clear hown3 hg3 q2
            go_wp2
            go_ret
            have hblk3 : w3.heap[b]? = some (.cells #[vo, I need, .slice (some ⟨ba, oa, none⟩) Y.length k] 32 (0, 0)) := (Hg3.out.block _ hbw).trans H.out.blk
            have hK := (Pure.kept (S := fun k => k = b) Hg3.out).setCell (p := ⟨b, 2, none⟩) (fun _ => rfl) (.slice a3 (k + 1 + (Y.length - k)) c3)
            have hI3 : Ints (w3.setCell ⟨b, 2, none⟩ (.slice a3 (k + 1 + (Y.length - k)) c3)) (.slice a3 (k + 1 + (Y.length - k)) c3) (Y.take k ++ [x] ++ Y.drop k) := by
              unfold Ints; rw [hlt4]; exact Row.of_own (ownsRow_setCell_below Hown3.out (by exact hbw) _)
            refine ⟨rfl, _, k, Hd.out, Hfin.out, hk, ⟨by simpa using block_setCell hblk3 2 _, H.out.own.kept hK (fun k hk hb => H.out.sepo (by rw [hk, hb])), hI3, H.out.sepo, fun e => ?_, own_plain Hown3.out, H.out.olen, by show (Y.take k ++ [x] ++ Y.drop k).length ≤ 1000; omega⟩, hK, fun k hk => (Hown3.out.lt k (rb_own hk)).1⟩
            have := (Hown3.out.lt _ (rb_own e)).1; omega
          · have HS := Hsuf
            have hk2 : ((k : Nat) : Int) < (cap : Int) := by omega
            have hlt1 : (Y.take k).length = k := by simp; omega
            have hlt2 : (Y.take k ++ [x]).length = k + 1 := by simp; omega
            have hlt3 : (Y.drop k).length = Y.length - k := by simp
            have hlt4 : (Y.take k ++ [x] ++ Y.drop k).length = k + 1 + (Y.length - k) := by simp; omega
            go_wp2_with (at_builtin; refine wpList_append_n rfl _ _ rfl w.heap.size (.slice none 0 0) [] 0 rfl rfl (World.ownsRow_nil _ _ _ _) _ (Y.take k) k hlt1 rfl Hpre.out (by omega) (Nat.le_refl _) ?_)
            intro v1 w1 hown1 hg1
            have Hown1 := hid (show w1.ownsRow w.heap.size 3 1 v1 k ((Y.take k).map (Value.int .i64)) by simpa using hown1)
            have Hg1 := hid (show Pure w w1 from (Below.refl _ _).grown hg1 (Nat.le_refl _) (fun k hk => by simp [Value.ownBlock] at hk))
            obtain ⟨a1, c1, rfl⟩ := own_shape Hown1.out
            clear hown1 hg1
            have b1 : w.heap.size ≤ (w1.alloc (.cells #[.int .i64 x] 3)).heap.size := by have := Hg1.out.size; simp; omega
            go_wp2_with (at_builtin; refine wpList_append_n rfl _ _ rfl w.heap.size _ (Y.take k) k hlt1 rfl (Hown1.out.alloc _) _ [x] 1 rfl rfl (ints_lit (w := w1) (l := [x]) (show 1 ≤ maxLen by decide)) (by omega) b1 ?_)
            intro v2 w2 hown2 hg2
            have Hown2 := hid (show w2.ownsRow w.heap.size 3 1 v2 (k + 1) ((Y.take k ++ [x]).map (Value.int .i64)) by simpa using hown2)
            have Hg2 := hid ((Hg1.out.alloc Hg1.out.size _).grown hg2 (by have := Hg1.out.size; simp; omega) (fun k hk => (Hown1.out.lt k hk).1))
            obtain ⟨a2, c2, rfl⟩ := own_shape Hown2.out
            have q2 : w2.cell? ⟨b, 2, none⟩ = some (.slice (some ⟨ba, oa, none⟩) Y.length cap) := (Hg2.out.cell hbw).trans K2.out
            clear hown2 hg2 b1
            go_wp2_with (at_builtin; refine wpList_append_n rfl _ _ rfl w.heap.size _ (Y.take k ++ [x]) (k + 1) hlt2 rfl Hown2.out _ (Y.drop k) (Y.length - k) hlt3 rfl (HS.out.pure Hg2.out) (by omega) Hg2.out.size ?_)
            intro v3 w3 hown3 hg3
            have Hown3 := hid (show w3.ownsRow w.heap.size 3 1 v3 (k + 1 + (Y.length - k)) ((Y.take k ++ [x] ++ Y.drop k).map (Value.int .i64)) by simpa using hown3)
            have Hg3 := hid (Hg2.out.grown hg3 Hg2.out.size (fun k hk => (Hown2.out.lt k hk).1))
            obtain ⟨a3, c3, rfl⟩ := own_shape Hown3.out
            have q3 : w3.cell? ⟨b, 2, none⟩ = some (.slice (some ⟨ba, oa, none⟩) Y.length cap) := (Hg3.out.cell hbw).trans K2.out
            have f3 : w3.frozen? ⟨b, 2, none⟩ = false := (Hg3.out.frozen hbw).trans F2.out
            clear hown3 hg3 q2
            go_wp2
            go_ret
            have hblk3 : w3.heap[b]? = some (.cells #[vo, I need, .slice (some ⟨ba, oa, none⟩) Y.length cap] 32 (0, 0)) := (Hg3.out.block _ hbw).trans H.out.blk
            have hK := (Pure.kept (S := fun k => k = b) Hg3.out).setCell (p := ⟨b, 2, none⟩) (fun _ => rfl) (.slice a3 (k + 1 + (Y.length - k)) c3)
            have hI3 : Ints (w3.setCell ⟨b, 2, none⟩ (.slice a3 (k + 1 + (Y.length - k)) c3)) (.slice a3 (k + 1 + (Y.length - k)) c3) (Y.take k ++ [x] ++ Y.drop k) := by
              unfold Ints; rw [hlt4]; exact Row.of_own (ownsRow_setCell_below Hown3.out (by exact hbw) _)
            refine ⟨rfl, _, k, Hd.out, Hfin.out, hk, ⟨by simpa using block_setCell hblk3 2 _, H.out.own.kept hK (fun k hk hb => H.out.sepo (by rw [hk, hb])), hI3, H.out.sepo, fun e => ?_, own_plain Hown3.out, H.out.olen, by show (Y.take k ++ [x] ++ Y.drop k).length ≤ 1000; omega⟩, hK, fun k hk => (Hown3.out.lt k (rb_own hk)).1⟩
            have := (Hown3.out.lt _ (rb_own e)).1; omega
        · have h1 : ((j : Int) + 1) - 1 = j := by omega
          have h2 : (0 : Int) < (j : Int) + 1 := by omega
          have h3 : (j : Int) < (Y.length : Int) := by omega
          obtain ⟨_, _, ee, hx⟩ := ints_get HY.out (show j < Y.length by omega)
          cases ee
          generalize Y.getD j 0 = z at *
          have hlt' : decide (x < z) = false := by simpa using hlt
          rcases Nat.eq_or_lt_of_le hkc with hkc | hkc
          · have HS := hid (Hsuf0.out hkc.symm)
            subst hkc
            have hlt1 : (Y.take (j + 1)).length = (j + 1) := by simp; omega
            have hlt2 : (Y.take (j + 1) ++ [x]).length = (j + 1) + 1 := by simp; omega
            have hlt3 : (Y.drop (j + 1)).length = Y.length - (j + 1) := by simp
            have hlt4 : (Y.take (j + 1) ++ [x] ++ Y.drop (j + 1)).length = (j + 1) + 1 + (Y.length - (j + 1)) := by simp; omega
            go_wp2_with (at_builtin; refine wpList_append_n rfl _ _ rfl w.heap.size (.slice none 0 0) [] 0 rfl rfl (World.ownsRow_nil _ _ _ _) _ (Y.take (j + 1)) (j + 1) hlt1 rfl Hpre.out (by omega) (Nat.le_refl _) ?_)
            intro v1 w1 hown1 hg1
            have Hown1 := hid (show w1.ownsRow w.heap.size 3 1 v1 (j + 1) ((Y.take (j + 1)).map (Value.int .i64)) by simpa using hown1)
            have Hg1 := hid (show Pure w w1 from (Below.refl _ _).grown hg1 (Nat.le_refl _) (fun k hk => by simp [Value.ownBlock] at hk))
            obtain ⟨a1, c1, rfl⟩ := own_shape Hown1.out
            clear hown1 hg1
            have b1 : w.heap.size ≤ (w1.alloc (.cells #[.int .i64 x] 3)).heap.size := by have := Hg1.out.size; simp; omega
            go_wp2_with (at_builtin; refine wpList_append_n rfl _ _ rfl w.heap.size _ (Y.take (j + 1)) (j + 1) hlt1 rfl (Hown1.out.alloc _) _ [x] 1 rfl rfl (ints_lit (w := w1) (l := [x]) (show 1 ≤ maxLen by decide)) (by omega) b1 ?_)
            intro v2 w2 hown2 hg2
            have Hown2 := hid (show w2.ownsRow w.heap.size 3 1 v2 ((j + 1) + 1) ((Y.take (j + 1) ++ [x]).map (Value.int .i64)) by simpa using hown2)
            have Hg2 := hid ((Hg1.out.alloc Hg1.out.size _).grown hg2 (by have := Hg1.out.size; simp; omega) (fun k hk => (Hown1.out.lt k hk).1))
            obtain ⟨a2, c2, rfl⟩ := own_shape Hown2.out
            have q2 : w2.cell? ⟨b, 2, none⟩ = some (.slice (some ⟨ba, oa, none⟩) Y.length (j + 1)) := (Hg2.out.cell hbw).trans K2.out
            clear hown2 hg2 b1
            go_wp2_with (at_builtin; refine wpList_append_n rfl _ _ rfl w.heap.size _ (Y.take (j + 1) ++ [x]) ((j + 1) + 1) hlt2 rfl Hown2.out _ (Y.drop (j + 1)) (Y.length - (j + 1)) hlt3 rfl (HS.out.pure Hg2.out) (by omega) Hg2.out.size ?_)
            intro v3 w3 hown3 hg3
            have Hown3 := hid (show w3.ownsRow w.heap.size 3 1 v3 ((j + 1) + 1 + (Y.length - (j + 1))) ((Y.take (j + 1) ++ [x] ++ Y.drop (j + 1)).map (Value.int .i64)) by simpa using hown3)
            have Hg3 := hid (Hg2.out.grown hg3 Hg2.out.size (fun k hk => (Hown2.out.lt k hk).1))
            obtain ⟨a3, c3, rfl⟩ := own_shape Hown3.out
            have q3 : w3.cell? ⟨b, 2, none⟩ = some (.slice (some ⟨ba, oa, none⟩) Y.length (j + 1)) := (Hg3.out.cell hbw).trans K2.out
            have f3 : w3.frozen? ⟨b, 2, none⟩ = false := (Hg3.out.frozen hbw).trans F2.out
            clear hown3 hg3 q2
            go_wp2
            go_ret
            have hblk3 : w3.heap[b]? = some (.cells #[vo, I need, .slice (some ⟨ba, oa, none⟩) Y.length (j + 1)] 32 (0, 0)) := (Hg3.out.block _ hbw).trans H.out.blk
            have hK := (Pure.kept (S := fun k => k = b) Hg3.out).setCell (p := ⟨b, 2, none⟩) (fun _ => rfl) (.slice a3 ((j + 1) + 1 + (Y.length - (j + 1))) c3)
            have hI3 : Ints (w3.setCell ⟨b, 2, none⟩ (.slice a3 ((j + 1) + 1 + (Y.length - (j + 1))) c3)) (.slice a3 ((j + 1) + 1 + (Y.length - (j + 1))) c3) (Y.take (j + 1) ++ [x] ++ Y.drop (j + 1)) := by
              unfold Ints; rw [hlt4]; exact Row.of_own (ownsRow_setCell_below Hown3.out (by exact hbw) _)
            refine ⟨rfl, _, (j + 1), Hd.out, Hfin.out, hk, ⟨by simpa using block_setCell hblk3 2 _, H.out.own.kept hK (fun k hk hb => H.out.sepo (by rw [hk, hb])), hI3, H.out.sepo, fun e => ?_, own_plain Hown3.out, H.out.olen, by show (Y.take (j + 1) ++ [x] ++ Y.drop (j + 1)).length ≤ 1000; omega⟩, hK, fun k hk => (Hown3.out.lt k (rb_own hk)).1⟩
            have := (Hown3.out.lt _ (rb_own e)).1; omega
          · have HS := Hsuf
            have hk2 : ((j + 1 : Nat) : Int) < (cap : Int) := by omega
            have hlt1 : (Y.take (j + 1)).length = (j + 1) := by simp; omega
            have hlt2 : (Y.take (j + 1) ++ [x]).length = (j + 1) + 1 := by simp; omega
            have hlt3 : (Y.drop (j + 1)).length = Y.length - (j + 1) := by simp
            have hlt4 : (Y.take (j + 1) ++ [x] ++ Y.drop (j + 1)).length = (j + 1) + 1 + (Y.length - (j + 1)) := by simp; omega
            go_wp2_with (at_builtin; refine wpList_append_n rfl _ _ rfl w.heap.size (.slice none 0 0) [] 0 rfl rfl (World.ownsRow_nil _ _ _ _) _ (Y.take (j + 1)) (j + 1) hlt1 rfl Hpre.out (by omega) (Nat.le_refl _) ?_)
            intro v1 w1 hown1 hg1
            have Hown1 := hid (show w1.ownsRow w.heap.size 3 1 v1 (j + 1) ((Y.take (j + 1)).map (Value.int .i64)) by simpa using hown1)
            have Hg1 := hid (show Pure w w1 from (Below.refl _ _).grown hg1 (Nat.le_refl _) (fun k hk => by simp [Value.ownBlock] at hk))
            obtain ⟨a1, c1, rfl⟩ := own_shape Hown1.out
            clear hown1 hg1
            have b1 : w.heap.size ≤ (w1.alloc (.cells #[.int .i64 x] 3)).heap.size := by have := Hg1.out.size; simp; omega
            go_wp2_with (at_builtin; refine wpList_append_n rfl _ _ rfl w.heap.size _ (Y.take (j + 1)) (j + 1) hlt1 rfl (Hown1.out.alloc _) _ [x] 1 rfl rfl (ints_lit (w := w1) (l := [x]) (show 1 ≤ maxLen by decide)) (by omega) b1 ?_)
            intro v2 w2 hown2 hg2
            have Hown2 := hid (show w2.ownsRow w.heap.size 3 1 v2 ((j + 1) + 1) ((Y.take (j + 1) ++ [x]).map (Value.int .i64)) by simpa using hown2)
            have Hg2 := hid ((Hg1.out.alloc Hg1.out.size _).grown hg2 (by have := Hg1.out.size; simp; omega) (fun k hk => (Hown1.out.lt k hk).1))
            obtain ⟨a2, c2, rfl⟩ := own_shape Hown2.out
            have q2 : w2.cell? ⟨b, 2, none⟩ = some (.slice (some ⟨ba, oa, none⟩) Y.length cap) := (Hg2.out.cell hbw).trans K2.out
            clear hown2 hg2 b1
            go_wp2_with (at_builtin; refine wpList_append_n rfl _ _ rfl w.heap.size _ (Y.take (j + 1) ++ [x]) ((j + 1) + 1) hlt2 rfl Hown2.out _ (Y.drop (j + 1)) (Y.length - (j + 1)) hlt3 rfl (HS.out.pure Hg2.out) (by omega) Hg2.out.size ?_)
            intro v3 w3 hown3 hg3
            have Hown3 := hid (show w3.ownsRow w.heap.size 3 1 v3 ((j + 1) + 1 + (Y.length - (j + 1))) ((Y.take (j + 1) ++ [x] ++ Y.drop (j + 1)).map (Value.int .i64)) by simpa using hown3)
            have Hg3 := hid (Hg2.out.grown hg3 Hg2.out.size (fun k hk => (Hown2.out.lt k hk).1))
            obtain ⟨a3, c3, rfl⟩ := own_shape Hown3.out
            have q3 : w3.cell? ⟨b, 2, none⟩ = some (.slice (some ⟨ba, oa, none⟩) Y.length cap) := (Hg3.out.cell hbw).trans K2.out
            have f3 : w3.frozen? ⟨b, 2, none⟩ = false := (Hg3.out.frozen hbw).trans F2.out
            clear hown3 hg3 q2
            go_wp2
            go_ret
            have hblk3 : w3.heap[b]? = some (.cells #[vo, I need, .slice (some ⟨ba, oa, none⟩) Y.length cap] 32 (0, 0)) := (Hg3.out.block _ hbw).trans H.out.blk
            have hK := (Pure.kept (S := fun k => k = b) Hg3.out).setCell (p := ⟨b, 2, none⟩) (fun _ => rfl) (.slice a3 ((j + 1) + 1 + (Y.length - (j + 1))) c3)
            have hI3 : Ints (w3.setCell ⟨b, 2, none⟩ (.slice a3 ((j + 1) + 1 + (Y.length - (j + 1))) c3)) (.slice a3 ((j + 1) + 1 + (Y.length - (j + 1))) c3) (Y.take (j + 1) ++ [x] ++ Y.drop (j + 1)) := by
              unfold Ints; rw [hlt4]; exact Row.of_own (ownsRow_setCell_below Hown3.out (by exact hbw) _)
            refine ⟨rfl, _, (j + 1), Hd.out, Hfin.out, hk, ⟨by simpa using block_setCell hblk3 2 _, H.out.own.kept hK (fun k hk hb => H.out.sepo (by rw [hk, hb])), hI3, H.out.sepo, fun e => ?_, own_plain Hown3.out, H.out.olen, by show (Y.take (j + 1) ++ [x] ++ Y.drop (j + 1)).length ≤ 1000; omega⟩, hK, fun k hk => (Hown3.out.lt k (rb_own hk)).1⟩
            have := (Hown3.out.lt _ (rb_own e)).1; omega
end Go.Proofs.Ythghccccjmbjlaa
