import Derived.Test.YthghccccjmbjlaaTallyE
namespace Go.Proofs.Ythghccccjmbjlaa
open Go.RowKit Go.Maps
/-! TallyNil. -/
set_option maxHeartbeats 400000 in
theorem yes_nil (node : Int) (w : World) : Calls Try.prog 24 #[.pointer none, .int .i64 node] w fun e w' => e = .returned (.bool false) ∧ w = w' := by
  go_enter Try.func24, Try.ntmps24
  go_wp2
  go_ret
  exact ⟨rfl, rfl⟩
set_option maxHeartbeats 400000 in
theorem count_nil (w : World) : Calls Try.prog 18 #[.pointer none] w fun e w' => e = .returned (.int .i64 0) ∧ w = w' := by
  go_enter Try.func18, Try.ntmps18
  go_wp2
  go_ret
  exact ⟨rfl, rfl⟩
set_option maxHeartbeats 400000 in
theorem owned_nil (w : World) : Calls Try.prog 19 #[.pointer none] w fun e w' => e = .returned (.int .i64 0) ∧ w = w' := by
  go_enter Try.func19, Try.ntmps19
  go_wp2
  go_ret
  exact ⟨rfl, rfl⟩
set_option maxHeartbeats 400000 in
theorem all_nil (w : World) : Calls Try.prog 17 #[.pointer none] w fun e w' => e = .returned (.slice none 0 0) ∧ w = w' := by
  go_enter Try.func17, Try.ntmps17
  go_wp2
  go_ret
  exact ⟨rfl, rfl⟩
set_option maxHeartbeats 400000 in
theorem missing_nil (w : World) : Calls Try.prog 13 #[.pointer none] w fun e w' => e = .returned (.slice none 0 0) ∧ Pure w w' := by
  have hP : Pure w (w.alloc (.cells #[.pointer none] 25)) := (Below.refl _ _).alloc (Nat.le_refl _) _
  go_enter Try.func13, Try.ntmps13
  go_wp2
  go_ret
  exact ⟨rfl, hP⟩
set_option maxHeartbeats 400000 in
theorem done_nil (w : World) : Calls Try.prog 21 #[.pointer none] w fun e w' => e = .returned (.bool false) ∧ Pure w w' := by
  go_enter Try.func21, Try.ntmps21
  go_wp2_with fail
  go_quiet (fail)
  go_wp2
  go_ret
  exact ⟨rfl, pure_drewN _ _⟩
set_option maxHeartbeats 400000 in
theorem most_nil (w : World) : Calls Try.prog 22 #[.pointer none] w fun e w' => e = .returned (.bool false) ∧ Pure w w' := by
  go_enter Try.func22, Try.ntmps22
  go_wp2_with fail
  go_quiet (fail)
  go_wp2
  go_ret
  exact ⟨rfl, pure_drewN _ _⟩
set_option maxHeartbeats 1000000 in
theorem del_nil (f : Fn) (lb : Array Value) (w : World) :
    Calls Try.prog 29 #[.slice none 0 0, .func f #[] lb] w fun e w' => e = .returned (.slice none 0 0) ∧ w = w' := by
  have hi := hid (Try.slices_IndexFunc_empty (α := WI) none 0 (.func f #[] lb) w)
  go_enter Try.func29, Try.ntmps29
  go_wp2_with (go_at_call 39; refine hi.out.mono ?_; rintro e w' ⟨rfl, rfl⟩)
  go_ret
  exact ⟨rfl, rfl⟩
set_option maxHeartbeats 1000000 in
theorem others_nil (w : World) : Calls Try.prog 15 #[.pointer none] w fun e w' => e = .returned (.slice none 0 0) ∧ Pure w w' := by
  have hmf : ∀ (fn : Fn) (first cap : Array Value) (w : World), (Instr.makeFunc fn first cap).run Try.prog w = .ok (.func fn first cap) w := fun _ _ _ _ => rfl
  obtain ⟨W, hW⟩ : ∃ W, W = w.alloc (.cells #[.pointer none] 25) := ⟨_, rfl⟩
  have HP := hid (show Pure w W by rw [hW]; exact (Below.refl _ _).alloc (Nat.le_refl _) _)
  have ht : W.heap[w.heap.size]? = some (.cells #[.pointer none] 25 (0, 0)) := by rw [hW]; exact block_alloc_new _ _
  have g1 : W.cell? ⟨w.heap.size, 0, none⟩ = some (.pointer none) := cell_of_block ht 0
  have hal := hid (all_nil W)
  rw [hW] at g1
  have HW := hid hW
  clear hW ht
  go_enter Try.func15, Try.ntmps15
  go_wp2_with fail
  rw [← HW.out]
  refine hal.out.mono ?_
  rintro e w1 ⟨rfl, rfl⟩
  clear g1
  go_wp2_with fail
  refine (del_nil _ _ _).mono ?_
  rintro e w2 ⟨rfl, rfl⟩
  go_wp2
  go_ret
  exact ⟨rfl, HP.out⟩

/-! ### the zero tally -/
theorem look_none {P : Program} {kt t e : TypeId} {w : World} (hk : P.underlying kt = some (.int .i64)) (ht : P.underlying t = some (.map kt e)) {z : Value} (hz : (zeroValue e).run P w = .ok z w) (k : Int) (hw : (Lit.int .i64 k).wf = true) :
    (Instr.lookup t (.map none) (.int .i64 k) false).run P w = .ok z w := by
  have K : Keyed P kt := int_keyed hk
  have hkey := keyOf_int_mk hk hw
  rcases K.find w hkey [] (fun x hx => absurd hx (by simp)) with ⟨h1, _⟩ | ⟨j, e0, _, h2, _⟩
  · simp [Instr.lookup, run_underlying ht, K.check w _ hkey, h1, hz, Result.andThen]
  · simp at h2
def zeroT : Array Value := #[.slice none 0 0, .int .i64 0, .map none]
section
variable {b : Nat} {w : World}
set_option maxHeartbeats 400000 in
theorem count_z (h : w.heap[b]? = some (.cells zeroT 40 (0, 0))) : Calls Try.prog 18 #[.pointer (some ⟨b, 0, none⟩)] w fun e w' => e = .returned (.int .i64 0) ∧ w = w' := by
  have k2 : w.cell? ⟨b, 2, none⟩ = some (.map none) := cell_of_block h 2
  clear h
  go_enter Try.func18, Try.ntmps18
  go_wp2
  go_ret
  exact ⟨rfl, rfl⟩
theorem zero_same {w' : World} (h : w.heap[b]? = some (.cells zeroT 40 (0, 0))) (hp : Pure w w') : w'.heap[b]? = some (.cells zeroT 40 (0, 0)) := (hp.block _ (lt_of_block h)).trans h
set_option maxHeartbeats 400000 in
theorem done_z (h : w.heap[b]? = some (.cells zeroT 40 (0, 0))) : Calls Try.prog 21 #[.pointer (some ⟨b, 0, none⟩)] w fun e w' => e = .returned (.bool true) ∧ Pure w w' := by
  have k1 : w.cell? ⟨b, 1, none⟩ = some (.int .i64 0) := cell_of_block h 1
  have Hc := hid (fun (n : Nat) => (count_z (w := w.drewN n) (zero_same h (pure_drewN _ _))).mono (R' := fun e w' => e = .returned (.int .i64 0) ∧ ∃ m, w' = (w.drewN n).drewN m) fun _ _ ⟨h1, h2⟩ => ⟨h1, 0, h2.symm⟩)
  clear h
  go_enter Try.func21, Try.ntmps21
  go_wp2_with fail
  go_quiet ((go_at_call 18; exact Calls.quiet_of (Hc.out _)))
  go_wp2
  go_ret
  exact ⟨rfl, pure_drewN _ _⟩
set_option maxHeartbeats 400000 in
theorem missing1_z {bt : Nat} (node : Int) (hwf : (Lit.int .i64 node).wf = true) (h : w.heap[b]? = some (.cells zeroT 40 (0, 0))) (ht : w.heap[bt]? = some (.cells #[.pointer (some ⟨b, 0, none⟩)] 25 (0, 0))) :
    Calls Try.prog 31 #[.int .i64 node, .pointer (some ⟨bt, 0, none⟩)] w fun e w' => e = .returned (.bool false) ∧ ∃ q, w' = w.drewN q := by
  have k1 : w.cell? ⟨bt, 0, none⟩ = some (.pointer (some ⟨b, 0, none⟩)) := cell_of_block ht 0
  have k2 : w.cell? ⟨b, 2, none⟩ = some (.map none) := cell_of_block h 2
  have hlook := look_none (P := Try.prog) (w := w) Try.underlying3 Try.underlying38 (zeroBool w) node hwf
  clear h ht
  go_enter Try.func31, Try.ntmps31
  go_wp2
  go_ret
  exact ⟨rfl, 0, rfl⟩
set_option maxHeartbeats 1000000 in
theorem missing_z (h : w.heap[b]? = some (.cells zeroT 40 (0, 0))) :
    Calls Try.prog 13 #[.pointer (some ⟨b, 0, none⟩)] w fun e w' => (∃ a c, e = .returned (.slice a 0 c)) ∧ Pure w w' := by
  have hmf : ∀ (fn : Fn) (first cap : Array Value) (w : World), (Instr.makeFunc fn first cap).run Try.prog w = .ok (.func fn first cap) w := fun _ _ _ _ => rfl
  obtain ⟨W, hW⟩ : ∃ W, W = w.alloc (.cells #[.pointer (some ⟨b, 0, none⟩)] 25) := ⟨_, rfl⟩
  have hP : Pure w W := by rw [hW]; exact (Below.refl _ _).alloc (Nat.le_refl _) _
  have hA := zero_same h hP
  have ht : W.heap[w.heap.size]? = some (.cells #[.pointer (some ⟨b, 0, none⟩)] 25 (0, 0)) := by rw [hW]; exact box_new _ _ _
  have g0 : W.cell? ⟨b, 0, none⟩ = some (.slice none 0 0) := cell_of_block hA 0
  have g1 : W.cell? ⟨w.heap.size, 0, none⟩ = some (.pointer (some ⟨b, 0, none⟩)) := cell_of_block ht 0
  have hcl := hid (clone_any (.slice none 0 0) [] W (Row.nil _ _) (by simp))
  have hsz : W.heap.size = w.heap.size + 1 := by rw [hW]; simp
  have hbw := lt_of_block h
  have H := hid hA
  have Ht := hid ht
  have HP := hid hP
  have Hsz := hid hsz
  rw [hW] at g0 g1
  have HW := hid hW
  clear h hA ht hP hsz hW
  go_enter Try.func13, Try.ntmps13
  go_wp2_with fail
  rw [← HW.out]
  refine hcl.out.mono ?_
  rintro e w1 ⟨v1, rfl, hown1, hp1⟩
  have hsz := Hsz.out
  have hdel := del_own W.heap.size v1 [] w1 hown1 (by simp) (fun x hx => absurd hx (by simp)) (fun _ => false) 31 #[.pointer (some ⟨w.heap.size, 0, none⟩)] (enters_of Try.func31 (by kernel_rfl) rfl)
    (fun W2 x hx hk => by
      have hsame : ∀ k, k < w.heap.size + 1 → W2.heap[k]? = W.heap[k]? := fun k hk' => (hk k (by have := hp1.size; omega) (fun e => by have := (hown1.lt k e.symm).1; omega)).trans (hp1.block k (by omega))
      exact missing1_z (b := b) (bt := w.heap.size) x hx ((hsame b (by omega)).trans H.out) ((hsame _ (by omega)).trans Ht.out))
  have Hdel := hid hdel
  have HP1 := hid (HP.out.then_ hp1)
  have Hown1 := hid hown1
  obtain ⟨a1, cap1, rfl⟩ := (Row.of_own hown1).shape
  clear hdel hp1 hown1 g0 g1
  go_wp2_with fail
  refine Hdel.out.mono ?_
  rintro e w2 ⟨v2, rfl, hown2, hg2⟩
  obtain ⟨a2, cap2, rfl⟩ := (Row.of_own hown2).shape
  go_wp2
  go_ret
  exact ⟨⟨_, _, rfl⟩, HP1.out.grown hg2 HP1.out.size (fun k hk => by have := (Hown1.out.lt k hk).1; omega)⟩

/-- What holds in a region that asks the zero tally. -/
def RZ (b : Nat) (w0 W : World) : Prop := W.heap[b]? = some (.cells zeroT 40 (0, 0)) ∧ Pure w0 W
theorem RZ.cell {b : Nat} {w0 W : World} (h : RZ b w0 W) : W.cell? ⟨b, 0, none⟩ = some (.slice none 0 0) ∧ RZ b w0 W := ⟨cell_of_block h.1 0, h⟩
theorem RZ.at_ {b : Nat} {w0 W : World} (h : W.cell? ⟨b, 0, none⟩ = some (.slice none 0 0) ∧ RZ b w0 W) : W.heap[b]? = some (.cells zeroT 40 (0, 0)) := h.2.1
theorem RZ.start {b : Nat} {w : World} (h : w.heap[b]? = some (.cells zeroT 40 (0, 0))) : RZ b w w.drew := ⟨h, (Below.refl _ _).drew⟩
theorem RZ.pure {b : Nat} {w0 W W' : World} (hp : Pure W W') (h : W.cell? ⟨b, 0, none⟩ = some (.slice none 0 0) ∧ RZ b w0 W) : RZ b w0 W' := ⟨zero_same h.2.1 hp, h.2.2.then_ hp⟩
set_option maxHeartbeats 1000000 in
theorem owned_z (h : w.heap[b]? = some (.cells zeroT 40 (0, 0))) :
    Calls Try.prog 19 #[.pointer (some ⟨b, 0, none⟩)] w fun e w' => e = .returned (.int .i64 0) ∧ Pure w w' := by
  have HRS := hid (RZ.start h)
  clear h
  go_enter Try.func19, Try.ntmps19
  go_wp2_with fail
  go_region_held3 (fun W => W.cell? ⟨b, 0, none⟩ = some (.slice none 0 0) ∧ RZ b w W)
    (first | exact HRS.out.cell | exact (RZ.pure hp3 (by assumption)).cell)
    (first | (go_at_call 13; refine (missing_z ?_).mono ?_; exact RZ.at_ (w0 := w) (by assumption); rintro e w3 ⟨⟨a3, cap3, rfl⟩, hp3⟩))
  have hx : RZ b w w3 := (show w3.cell? ⟨b, 0, none⟩ = some (.slice none 0 0) ∧ RZ b w w3 from by assumption).2
  have Hx := hid hx.2
  clear hx hp3
  go_wp2
  go_ret
  exact ⟨rfl, Hx.out⟩
set_option maxHeartbeats 1000000 in
theorem majority_z (w : World) :
    Calls Try.prog 36 #[.int .i64 0] w fun e w' => e = .returned (.int .i64 1) ∧ w = w' := majority 0 w (by omega) (by omega)
set_option maxHeartbeats 1000000 in
theorem most_z (h : w.heap[b]? = some (.cells zeroT 40 (0, 0))) :
    Calls Try.prog 22 #[.pointer (some ⟨b, 0, none⟩)] w fun e w' => e = .returned (.bool false) ∧ Pure w w' := by
  have HRS := hid (RZ.start h)
  clear h
  go_enter Try.func22, Try.ntmps22
  go_wp2_with fail
  go_region_held3 (fun W => W.cell? ⟨b, 0, none⟩ = some (.slice none 0 0) ∧ RZ b w W)
    (first | exact HRS.out.cell | assumption | exact (RZ.pure hp3 (by assumption)).cell)
    (first
      | (go_at_call 19; refine (owned_z ?_).mono ?_; exact RZ.at_ (w0 := w) (by assumption); rintro e w3 ⟨rfl, hp3⟩)
      | (go_at_call 36; refine (majority_z _).mono ?_; rintro e w4 ⟨rfl, rfl⟩))
  have hx : RZ b w w3 := (show w3.cell? ⟨b, 0, none⟩ = some (.slice none 0 0) ∧ RZ b w w3 from by assumption).2
  have Hx := hid hx.2
  clear hx hp3
  go_wp2
  go_ret
  exact ⟨rfl, Hx.out⟩
set_option maxHeartbeats 1000000 in
theorem yes_z (node : Int) (hwf : (Lit.int .i64 node).wf = true) (h : w.heap[b]? = some (.cells zeroT 40 (0, 0))) :
    Calls Try.prog 24 #[.pointer (some ⟨b, 0, none⟩), .int .i64 node] w fun e w' => e = .returned (.bool true) ∧ TallyAt w' b w.heap.size (.slice none 0 0) ⟨[], 0, [node]⟩ ∧ Kept (fun k => k = b) w w' := by
  have k2 : w.cell? ⟨b, 2, none⟩ = some (.map none) := cell_of_block h 2
  have hlook := look_none (P := Try.prog) (w := w) Try.underlying3 Try.underlying38 (zeroBool w) node hwf
  have hn := run_eql_map_nil (P := Try.prog) w 38 3 4 none Try.underlying38
  simp only [Option.isNone_none] at hn
  have hmm := @run_makeMap Try.prog
  have hbw := lt_of_block h
  have H := hid h
  obtain ⟨W, hW⟩ : ∃ W, W = (w.setCell ⟨b, 2, none⟩ (.map (some w.heap.size))).alloc (.map #[] 0) := ⟨_, rfl⟩
  have hblk : W.heap[b]? = some (.cells #[.slice none 0 0, .int .i64 0, .map (some w.heap.size)] 40 (0, 0)) := by
    rw [hW]; exact block_alloc_old (by simpa [zeroT] using block_setCell h 2 (.map (some w.heap.size))) _
  have hmap : IMap Value.bool W w.heap.size [] := by
    rw [hW]; simpa [World.setCell] using IMap.made Value.bool (w.setCell ⟨b, 2, none⟩ (.map (some w.heap.size)))
  have hkp : Kept (fun k => k = b) w W := by
    rw [hW]; exact ((Kept.refl (fun k => k = b) w).setCell (p := ⟨b, 2, none⟩) (fun _ => rfl) _).alloc _
  have q2 : W.cell? ⟨b, 2, none⟩ = some (.map (some w.heap.size)) := cell_of_block hblk 2
  have f0 : w.frozen? ⟨b, 2, none⟩ = false := free_of_block h 2
  have Hblk := hid hblk
  have Hmap := hid hmap
  have Hkp := hid hkp
  have HW := hid hW
  rw [hW] at q2
  clear h hblk hmap hkp hW
  go_enter Try.func24, Try.ntmps24
  go_wp2_with (at_mapUpdate; rw [← HW.out]; refine wpList_put Value.bool _ rfl _ _ _ 38 rfl 3 4 Try.underlying3 Try.underlying38 w.heap.size [] rfl Hmap.out node hwf true rfl rfl ?_; intro w1 hmap1 hg1 hs1; have Hmap1 := hid hmap1; have Hg1 := hid hg1; clear hmap1 hg1 hs1)
  go_ret
  have hbW := lt_of_block Hblk.out
  refine ⟨rfl, ⟨(Hg1.out.block b hbW (fun e => by simp at e; omega)).trans Hblk.out, Row.nil _ _, by simp [Value.rb], by simp [Value.rb], by simpa [mput, tr] using Hmap1.out, fun x hx => absurd hx (by simp), by simp, fun x hx => by simp at hx; subst hx; exact hwf, by simp, by simp⟩, ?_⟩
  exact Hkp.out.grown Hg1.out (fun k hk hk' => by simp at hk; omega)
end

set_option maxHeartbeats 2000000 in
theorem nil_walk (node : Int) (w : World) (hwf : (Lit.int .i64 node).wf = true) :
    Calls Try.prog 6 #[.int .i64 node] w fun e w' => e = .returned (.bool true) ∧ Pure w w' := by
  obtain ⟨W, hW⟩ : ∃ W, W = w.alloc (.cells zeroT 40) := ⟨_, rfl⟩
  have HP := hid (show Pure w W by rw [hW]; exact (Below.refl _ _).alloc (Nat.le_refl _) _)
  have HZ := hid (show W.heap[w.heap.size]? = some (.cells zeroT 40 (0, 0)) by rw [hW]; exact block_alloc_new _ _)
  have hz : (w.alloc (.cells #[.slice none 0 0, .int .i64 0, .map none] 40)) = W := hW.symm
  have Hz := hid hz
  have Ha := hid (awake_any W)
  clear hW hz
  go_enter Try.func6, Try.ntmps6
  go_wp2_with fail
  rw [Hz.out]
  refine Ha.out.mono ?_
  rintro e w1 ⟨rfl, hp1⟩
  have H1 := hid (HP.out.then_ hp1)
  have Z1 := hid (zero_same HZ.out hp1)
  clear hp1
  go_wp2_with fail
  refine (yes_nil node w1).mono ?_
  rintro e w' ⟨rfl, rfl⟩
  go_wp2_with fail
  refine (count_nil w1).mono ?_
  rintro e w' ⟨rfl, rfl⟩
  go_wp2_with fail
  refine (owned_nil w1).mono ?_
  rintro e w' ⟨rfl, rfl⟩
  go_wp2_with fail
  refine (missing_nil w1).mono ?_
  rintro e w2 ⟨rfl, hp2⟩
  have H2 := hid (H1.out.then_ hp2)
  have Z2 := hid (zero_same Z1.out hp2)
  clear hp2
  go_wp2_with fail
  refine (others_nil w2).mono ?_
  rintro e w3 ⟨rfl, hp3⟩
  have H3 := hid (H2.out.then_ hp3)
  have Z3 := hid (zero_same Z2.out hp3)
  clear hp3
  go_wp2_with fail
  refine (all_nil w3).mono ?_
  rintro e w' ⟨rfl, rfl⟩
  go_wp2_with fail
  refine (done_nil w3).mono ?_
  rintro e w4 ⟨rfl, hp4⟩
  have H4 := hid (H3.out.then_ hp4)
  have Z4 := hid (zero_same Z3.out hp4)
  clear hp4
  go_wp2_with fail
  refine (most_nil w4).mono ?_
  rintro e w5 ⟨rfl, hp5⟩
  have H5 := hid (H4.out.then_ hp5)
  have Z5 := hid (zero_same Z4.out hp5)
  clear hp5
  go_wp2_with fail
  refine (done_z Z5.out).mono ?_
  rintro e w6 ⟨rfl, hp6⟩
  have H6 := hid (H5.out.then_ hp6)
  have Z6 := hid (zero_same Z5.out hp6)
  clear hp6
  go_wp2_with fail
  refine (most_z Z6.out).mono ?_
  rintro e w7 ⟨rfl, hp7⟩
  have H7 := hid (H6.out.then_ hp7)
  have Z7 := hid (zero_same Z6.out hp7)
  clear hp7
  go_wp2_with fail
  refine (yes_z node hwf Z7.out).mono ?_
  rintro e w8 ⟨rfl, hT8, hk8⟩
  have H8 := hid (H7.out.kept_then hk8 (fun k (hk : k = w.heap.size) => by omega))
  have T8 := hid hT8
  clear hT8 hk8
  go_wp2_with fail
  refine (count_any _ _ _ _ w8 T8.out).mono ?_
  rintro e w' ⟨rfl, rfl⟩
  go_wp2_with fail
  refine (new_no _ _ w8 (by decide)).mono ?_
  rintro e w' ⟨rfl, rfl⟩
  go_wp2
  go_ret
  exact ⟨rfl, H8.out⟩
end Go.Proofs.Ythghccccjmbjlaa
