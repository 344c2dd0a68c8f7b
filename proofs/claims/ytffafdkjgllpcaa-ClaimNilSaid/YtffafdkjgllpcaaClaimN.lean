import Derived.Test.YtffafdkjgllpcaaClaimI
namespace Go.Proofs.Ytffafdkjgllpcaa
open Go.RowKit Go.Maps

/-- What is no claim: nil, or a zero one. -/
def NotMade (p : Option Addr) (w : World) : Prop := Calls Try.prog 33 #[.pointer p] w fun e w' => e = .returned (.bool false) ∧ w = w'

set_option maxHeartbeats 400000 in
theorem ans_no (p : Option Addr) (w : World) (hm : NotMade p w) :
    Calls Try.prog 10 #[.pointer p, .int .i64 1, .bool true] w fun e w' => e = .returned (.bool false) ∧ w = w' := by
  have Hm := hid hm
  have Hs := hid (state_no p w hm)
  clear hm
  go_enter Try.func10, Try.ntmps10
  go_wp2_with (first
    | (go_at_call 33; refine (show Calls Try.prog _ _ _ _ from Hm.out).mono ?_; rintro e w' ⟨rfl, rfl⟩)
    | (go_at_call 11; refine Hs.out.mono ?_; rintro e w' ⟨rfl, rfl⟩))
  go_ret
  exact ⟨rfl, rfl⟩

set_option maxHeartbeats 400000 in
theorem end_no (p : Option Addr) (w : World) (hm : NotMade p w) :
    Calls Try.prog 13 #[.pointer p] w fun e w' => e = .returned (.tuple #[]) ∧ w = w' := by
  have Hm := hid hm
  have Hs := hid (state_no p w hm)
  clear hm
  go_enter Try.func13, Try.ntmps13
  go_wp2_with (first
    | (go_at_call 33; refine (show Calls Try.prog _ _ _ _ from Hm.out).mono ?_; rintro e w' ⟨rfl, rfl⟩)
    | (go_at_call 11; refine Hs.out.mono ?_; rintro e w' ⟨rfl, rfl⟩))
  go_end0
  exact ⟨rfl, rfl⟩

set_option maxHeartbeats 400000 in
theorem until_no (p : Option Addr) (w : World) (hm : NotMade p w) :
    Calls Try.prog 18 #[.pointer p] w fun e w' => e = .returned (.int .i64 0) ∧ w = w' := by
  have Hm := hid hm
  have Hs := hid (state_no p w hm)
  clear hm
  go_enter Try.func18, Try.ntmps18
  go_wp2_with (first
    | (go_at_call 33; refine (show Calls Try.prog _ _ _ _ from Hm.out).mono ?_; rintro e w' ⟨rfl, rfl⟩)
    | (go_at_call 11; refine Hs.out.mono ?_; rintro e w' ⟨rfl, rfl⟩))
  go_ret
  exact ⟨rfl, rfl⟩

set_option maxHeartbeats 400000 in
theorem over_no (p : Option Addr) (w : World) (hm : NotMade p w) :
    Calls Try.prog 19 #[.pointer p] w fun e w' => e = .returned (.int .i64 0) ∧ w = w' := by
  have Hm := hid hm
  have Hs := hid (state_no p w hm)
  clear hm
  go_enter Try.func19, Try.ntmps19
  go_wp2_with (first
    | (go_at_call 33; refine (show Calls Try.prog _ _ _ _ from Hm.out).mono ?_; rintro e w' ⟨rfl, rfl⟩)
    | (go_at_call 11; refine Hs.out.mono ?_; rintro e w' ⟨rfl, rfl⟩))
  go_ret
  exact ⟨rfl, rfl⟩

set_option maxHeartbeats 400000 in
theorem receipt_no (p : Option Addr) (w : World) (hm : NotMade p w) :
    Calls Try.prog 21 #[.pointer p] w fun e w' => e = .returned (.int .i64 0) ∧ w = w' := by
  have Hm := hid hm
  have Hs := hid (state_no p w hm)
  clear hm
  go_enter Try.func21, Try.ntmps21
  go_wp2_with (first
    | (go_at_call 33; refine (show Calls Try.prog _ _ _ _ from Hm.out).mono ?_; rintro e w' ⟨rfl, rfl⟩)
    | (go_at_call 11; refine Hs.out.mono ?_; rintro e w' ⟨rfl, rfl⟩))
  go_ret
  exact ⟨rfl, rfl⟩

set_option maxHeartbeats 400000 in
theorem owners_no (p : Option Addr) (w : World) (hm : NotMade p w) :
    Calls Try.prog 17 #[.pointer p] w fun e w' => e = .returned (.slice none 0 0) ∧ w = w' := by
  have Hm := hid hm
  have Hs := hid (state_no p w hm)
  clear hm
  go_enter Try.func17, Try.ntmps17
  go_wp2_with (first
    | (go_at_call 33; refine (show Calls Try.prog _ _ _ _ from Hm.out).mono ?_; rintro e w' ⟨rfl, rfl⟩)
    | (go_at_call 11; refine Hs.out.mono ?_; rintro e w' ⟨rfl, rfl⟩))
  go_ret
  exact ⟨rfl, rfl⟩

set_option maxHeartbeats 400000 in
theorem yes_no (p : Option Addr) (w : World) (hm : NotMade p w) :
    Calls Try.prog 12 #[.pointer p] w fun e w' => e = .returned (.slice none 0 0) ∧ w = w' := by
  have Hm := hid hm
  have Hs := hid (state_no p w hm)
  clear hm
  go_enter Try.func12, Try.ntmps12
  go_wp2_with (first
    | (go_at_call 33; refine (show Calls Try.prog _ _ _ _ from Hm.out).mono ?_; rintro e w' ⟨rfl, rfl⟩)
    | (go_at_call 11; refine Hs.out.mono ?_; rintro e w' ⟨rfl, rfl⟩))
  go_ret
  exact ⟨rfl, rfl⟩

set_option maxHeartbeats 400000 in
theorem valid_no (p : Option Addr) (now : Int) (w : World) (hm : NotMade p w) :
    Calls Try.prog 26 #[.pointer p, .int .i64 now] w fun e w' => e = .returned (.bool false) ∧ w = w' := by
  have Hm := hid hm
  have Hs := hid (state_no p w hm)
  clear hm
  go_enter Try.func26, Try.ntmps26
  go_wp2_with (first
    | (go_at_call 33; refine (show Calls Try.prog _ _ _ _ from Hm.out).mono ?_; rintro e w' ⟨rfl, rfl⟩)
    | (go_at_call 11; refine Hs.out.mono ?_; rintro e w' ⟨rfl, rfl⟩))
  go_ret
  exact ⟨rfl, rfl⟩

set_option maxHeartbeats 400000 in
theorem dot_no (p : Option Addr) (w : World) (hm : NotMade p (w.alloc (.cells #[.int .i64 0, .int .i64 0] 27))) :
    Calls Try.prog 20 #[.pointer p] w fun e w' => e = .returned (.agg #[.int .i64 0, .int .i64 0]) ∧ Pure w w' := by
  have Hm := hid hm
  clear hm
  go_enter Try.func20, Try.ntmps20
  go_wp2_with (go_at_call 33; refine (show Calls Try.prog _ _ _ _ from Hm.out).mono ?_; rintro e w' ⟨rfl, rfl⟩)
  exact bodyPost_ret (v := .agg #[.int .i64 0, .int .i64 0]) (by simp [results, Try.results20, go_sem]) rfl ⟨rfl, (Below.refl _ _).alloc (Nat.le_refl _) _⟩

theorem nil_not (w : World) : NotMade none w := made_nil w
theorem zero_not (b : Nat) (w : World) (h : w.heap[b]? = some (.cells zeroCM 52 (0, 0))) : NotMade (some ⟨b, 0, none⟩) w := made_zero b w h

/-- What holds in the law's last statement: the zero claim at b, the zero name at b + 1. -/
def SZ (b : Nat) (w0 W : World) : Prop := W.heap[b]? = some (.cells zeroCM 52 (0, 0)) ∧ W.heap[b + 1]? = some (.cells #[.int .i64 0, .int .i64 0] 27 (0, 0)) ∧ Pure w0 W
theorem SZ.cells {b : Nat} {w0 W : World} (h : SZ b w0 W) : W.cell? ⟨b + 1, 0, none⟩ = some (.int .i64 0) ∧ W.cell? ⟨b + 1, 1, none⟩ = some (.int .i64 0) ∧ SZ b w0 W := ⟨cell_of_block h.2.1 0, cell_of_block h.2.1 1, h⟩
theorem SZ.pure {b : Nat} {w0 W W' : World} (hp : Pure W W') (h : W.cell? ⟨b + 1, 0, none⟩ = some (.int .i64 0) ∧ W.cell? ⟨b + 1, 1, none⟩ = some (.int .i64 0) ∧ SZ b w0 W) : SZ b w0 W' :=
  ⟨(hp.block _ (lt_of_block h.2.2.1)).trans h.2.2.1, (hp.block _ (lt_of_block h.2.2.2.1)).trans h.2.2.2.1, h.2.2.2.2.then_ hp⟩
theorem SZ.nm {b : Nat} {w0 W : World} {p : Option Addr} (hp : p = none ∨ p = some ⟨b, 0, none⟩) (h : W.cell? ⟨b + 1, 0, none⟩ = some (.int .i64 0) ∧ W.cell? ⟨b + 1, 1, none⟩ = some (.int .i64 0) ∧ SZ b w0 W) : NotMade p W := by
  rcases hp with rfl | rfl
  · exact nil_not W
  · exact zero_not b W h.2.2.1

set_option maxHeartbeats 2000000 in
theorem nil_walk (now : Int) (w : World) :
    Calls Try.prog 7 #[.int .i64 now] w fun e w' => e = .returned (.bool true) ∧ Pure w w' := by
  have hz1 : (w.alloc (.cells zeroCM 52)).heap[w.heap.size]? = some (.cells zeroCM 52 (0, 0)) := block_alloc_new _ _
  have hnn := hid nil_not
  have hzz := hid zero_not
  have Hz1 := hid hz1
  have hP1 : Pure w (w.alloc (.cells zeroCM 52)) := (Below.refl _ _).alloc (Nat.le_refl _) _
  have HP1 := hid hP1
  have hsz : SZ w.heap.size w ((w.alloc (.cells zeroCM 52)).alloc (.cells #[.int .i64 0, .int .i64 0] 27)) :=
    ⟨block_alloc_old Hz1.out _, by have := block_alloc_new (w.alloc (.cells zeroCM 52)) (.cells #[.int .i64 0, .int .i64 0] 27); simpa using this, HP1.out.then_ ((Below.refl _ _).alloc (Nat.le_refl _) _)⟩
  have Hsz := hid (show SZ w.heap.size w ((w.alloc (.cells zeroCM 52)).alloc (.cells #[.int .i64 0, .int .i64 0] 27)).drew from ⟨hsz.1, hsz.2.1, hsz.2.2.drew⟩)
  clear hz1 hP1 hsz
  go_enter Try.func7, Try.ntmps7
  go_wp2_with fail
  refine (end_no none _ (hnn.out _)).mono ?_
  rintro e w' ⟨rfl, rfl⟩
  go_wp2_with fail
  refine (end_no _ _ (hzz.out _ _ Hz1.out)).mono ?_
  rintro e w' ⟨rfl, rfl⟩
  go_wp2_with fail
  simp only [List.append]
  go_region_held3 (fun W => W.cell? ⟨w.heap.size + 1, 0, none⟩ = some (.int .i64 0) ∧ W.cell? ⟨w.heap.size + 1, 1, none⟩ = some (.int .i64 0) ∧ SZ w.heap.size w W)
    (first | exact Hsz.out.cells | assumption | exact (SZ.pure hp2 (by assumption)).cells | exact (SZ.pure hp3 (by assumption)).cells)
    (first
      | (go_at_call 8; refine (awake_any _).mono ?_; rintro e w2 ⟨rfl, hp2⟩)
      | (go_at_call 10; refine (ans_no _ _ ?_).mono ?_; exact SZ.nm (b := w.heap.size) (w0 := w) (by first | exact .inl rfl | exact .inr rfl) (by assumption); rintro e w' ⟨rfl, rfl⟩)
      | (go_at_call 11; refine (state_no _ _ ?_).mono ?_; exact SZ.nm (b := w.heap.size) (w0 := w) (by first | exact .inl rfl | exact .inr rfl) (by assumption); rintro e w' ⟨rfl, rfl⟩)
      | (go_at_call 18; refine (until_no _ _ ?_).mono ?_; exact SZ.nm (b := w.heap.size) (w0 := w) (by first | exact .inl rfl | exact .inr rfl) (by assumption); rintro e w' ⟨rfl, rfl⟩)
      | (go_at_call 19; refine (over_no _ _ ?_).mono ?_; exact SZ.nm (b := w.heap.size) (w0 := w) (by first | exact .inl rfl | exact .inr rfl) (by assumption); rintro e w' ⟨rfl, rfl⟩)
      | (go_at_call 21; refine (receipt_no _ _ ?_).mono ?_; exact SZ.nm (b := w.heap.size) (w0 := w) (by first | exact .inl rfl | exact .inr rfl) (by assumption); rintro e w' ⟨rfl, rfl⟩)
      | (go_at_call 17; refine (owners_no _ _ ?_).mono ?_; exact SZ.nm (b := w.heap.size) (w0 := w) (by first | exact .inl rfl | exact .inr rfl) (by assumption); rintro e w' ⟨rfl, rfl⟩)
      | (go_at_call 12; refine (yes_no _ _ ?_).mono ?_; exact SZ.nm (b := w.heap.size) (w0 := w) (by first | exact .inl rfl | exact .inr rfl) (by assumption); rintro e w' ⟨rfl, rfl⟩)
      | (go_at_call 26; refine (valid_no _ now _ ?_).mono ?_; exact SZ.nm (b := w.heap.size) (w0 := w) (by first | exact .inl rfl | exact .inr rfl) (by assumption); rintro e w' ⟨rfl, rfl⟩)
      | (go_at_call 20; refine (dot_no none _ (hnn.out _)).mono ?_; rintro e w3 ⟨rfl, hp3⟩))
  have hfin : SZ w.heap.size w w3 := (show w3.cell? ⟨w.heap.size + 1, 0, none⟩ = some (.int .i64 0) ∧ w3.cell? ⟨w.heap.size + 1, 1, none⟩ = some (.int .i64 0) ∧ SZ w.heap.size w w3 from by assumption).2.2
  have Hfin := hid hfin.2.2
  clear hfin hp2 hp3
  go_wp2
  go_ret
  exact ⟨rfl, Hfin.out⟩
end Go.Proofs.Ytffafdkjgllpcaa
