/- custody: Safe; ref01's Same; the law's few. -/
import Derived.Test.YtofengnbedebpaaCus5
namespace Go.Proofs.Ytofengnbedebpaa
open Go.RowKit Go.Maps Go.MapKept

theorem ints_lit {w : World} {l : List Int} (hl : l.length ≤ maxLen) : Ints (w.alloc (.cells (l.map (Value.int .i64)).toArray 3)) (.slice (some ⟨w.heap.size, 0, none⟩) l.length l.length) l :=
  ⟨by simp, _, _, rfl, Nat.le_refl _, hl, .inr ⟨_, _, rfl, by simp, fun i _ => by rw [Nat.zero_add, World.cell?_alloc_new]; simp⟩⟩


/-- ref01's Same. -/
theorem same_short {l k : List Int} (h : l.length ≠ k.length) : decide (l = k) = false := by simp; exact fun e => h (by rw [e])
theorem same_take {l k : List Int} {i : Nat} (h : l.take i = k.take i) (h1 : i < l.length) (h2 : i < k.length) (e : l.getD i 0 = k.getD i 0) : l.take (i + 1) = k.take (i + 1) := by
  rw [take_succ_get l i h1, take_succ_get k i h2, h, e]
theorem same_full {l k : List Int} (h : l.length = k.length) (e : l.take l.length = k.take l.length) : decide (l = k) = true := by rw [List.take_length, h, List.take_length] at e; simp [e]
theorem same_not {l k : List Int} {i : Nat} (e : ¬ l.getD i 0 = k.getD i 0) : decide (l = k) = false := by simp; exact fun h => e (by rw [h])

set_option maxHeartbeats 1000000 in
theorem same_any (v u : Value) (l k : List Int) (w : World) (hv : Ints w v l) (hu : Ints w u k) :
    Calls Try.prog 18 #[v, u] w fun e w' => e = .returned (.bool (decide (l = k))) ∧ Pure w w' := by
  obtain ⟨a, ca, rfl⟩ := hv.shape
  obtain ⟨b, cb, rfl⟩ := hu.shape
  obtain ⟨_, h1, h2, hc⟩ := hv.cell
  obtain ⟨_, h3, h4, hd⟩ := hu.cell
  unfold maxLen at h2 h4
  clear hv hu
  by_cases hl : l.length = k.length
  · go_enter Try.func18, Try.ntmps18
    have hne : ((l.length : Int) != (k.length : Int)) = false := by simp [hl]
    have hl1 : l.length ≤ k.length := by omega
    have hl2 : k.length ≤ l.length := by omega
    have Hl := hid hl
    clear hl
    go_wp2
    go_loopw [5] (fun x wr => ∃ i : Nat, i ≤ l.length ∧ x = .int .i64 i ∧ l.take i = k.take i ∧ ∃ n, wr = w.drewN n) (fun x _ => l.length - (RowKit.intOf x).toNat)
    case atStart => exact ⟨0, Nat.zero_le _, rfl, by simp, 0, rfl⟩
    case round =>
      obtain ⟨i, hi, rfl, ht, n, rfl⟩ := hrel
      by_cases hlt : i < l.length
      · have hlk : i < k.length := by omega
        obtain ⟨ba, oa, rfl, hx⟩ : ∃ b off, a = some ⟨b, off, none⟩ ∧ w.cell? ⟨b, off + i, none⟩ = some (.int .i64 (l.getD i 0)) := by
          rcases hc with ⟨h, _⟩ | ⟨b, off, rfl, _, hcell⟩
          · rw [h] at hlt; exact absurd hlt (Nat.not_lt_zero _)
          · exact ⟨b, off, rfl, hcell i hlt⟩
        obtain ⟨bb, ob, rfl, hy⟩ : ∃ b_1 off, b = some ⟨b_1, off, none⟩ ∧ w.cell? ⟨b_1, off + i, none⟩ = some (.int .i64 (k.getD i 0)) := by
          rcases hd with ⟨h, _⟩ | ⟨b, off, rfl, _, hcell⟩
          · rw [h] at hlk; exact absurd hlk (Nat.not_lt_zero _)
          · exact ⟨b, off, rfl, hcell i hlk⟩
        have Hs := hid (same_take ht hlt hlk)
        have Hn := hid (@same_not l k i)
        have hlt' : (i : Int) < (l.length : Int) := by omega
        have hlk' : (i : Int) < (k.length : Int) := by omega
        clear hc hd ht
        generalize l.getD i 0 = x at *
        generalize k.getD i 0 = y at *
        by_cases hxy : x = y
        · have hb : (x != y) = false := by simp [hxy]
          have Hs' := hid (Hs.out hxy)
          clear hxy Hs Hn
          go_wp2_with fail
          go_quiet (fail)
          go_wp2
          go_roundw
          case rel => exact ⟨i + 1, by omega, by go_num, Hs'.out, _, rfl⟩
          case measure => simp [RowKit.intOf]; omega
        · have hb : (x != y) = true := by simp [hxy]
          have Hf := hid (Hn.out hxy)
          clear hxy Hs Hn
          go_wp2_with fail
          go_quiet (fail)
          go_wp2
          go_ret
          exact ⟨ret_bool Hf.out.symm, (pure_drewN _ n).then_ (pure_drewN _ _)⟩
      · have e : i = l.length := by omega
        subst e
        have Hf := hid (same_full Hl.out ht)
        clear hc hd ht
        go_wp2
        go_ret
        exact ⟨ret_bool Hf.out.symm, pure_drewN _ _⟩
  · have Hf := hid (same_short hl)
    have hne : ((l.length : Int) != (k.length : Int)) = true := by simp; omega
    clear hc hd
    go_enter Try.func18, Try.ntmps18
    go_wp2
    go_ret
    exact ⟨ret_bool Hf.out.symm, Below.refl _ _⟩
def few (l : List Int) : List Int := l.take 8
theorem few_le (l : List Int) : (few l).length ≤ 8 := by unfold few; simp; omega
theorem few_wf {l : List Int} (h : AllWf l) : AllWf (few l) := fun x hx => h x (List.mem_of_mem_take hx)
theorem ints_take {w : World} {a : Option Addr} {cap : Nat} {l : List Int} (h : Ints w (.slice a l.length cap) l) (hl : 8 < l.length) : Ints w (.slice a 8 cap) (few l) := by
  obtain ⟨_, h1, h2, hc⟩ := h.cell
  have e : (few l).length = 8 := by unfold few; simp; omega
  refine ⟨by simp, a, cap, by rw [e], by omega, h2, ?_⟩
  rcases hc with ⟨h, hz⟩ | ⟨b, off, rfl, hb, hcell⟩
  · exact .inl hz
  · refine .inr ⟨b, off, rfl, hb, fun i hi => ?_⟩
    rw [e] at hi
    rw [hcell i (by omega)]
    unfold few
    simp [List.getD, show i < l.length by omega, show i < 8 by omega]

set_option maxHeartbeats 400000 in
theorem few_any (v : Value) (l : List Int) (w : World) (hr : Ints w v l) :
    Calls Try.prog 9 #[v] w fun e w' => ∃ v', e = .returned v' ∧ Ints w v' (few l) ∧ (∀ k, v'.rb = some k → v.rb = some k) ∧ w = w' := by
  obtain ⟨a, cap, rfl⟩ := hr.shape
  obtain ⟨_, h1, h2, hc⟩ := hr.cell
  by_cases hl : 8 < l.length
  · have Hr := hid (ints_take hr hl)
    have hcap : 8 ≤ cap := by omega
    obtain ⟨b, off, rfl⟩ : ∃ b off, a = some ⟨b, off, none⟩ := by
      rcases hc with ⟨h, _⟩ | ⟨b, off, h, _⟩
      · rw [h] at hl; simp at hl
      · exact ⟨b, off, h⟩
    clear hr hc
    have hl' : (8 : Int) < (l.length : Int) := by omega
    go_enter Try.func9, Try.ntmps9
    go_wp2
    go_ret
    exact ⟨_, rfl, Hr.out, fun _ h => h, rfl⟩
  · have e : few l = l := by unfold few; rw [List.take_of_length_le (by omega)]
    have Hr := hid hr
    rw [e]
    clear hr hc e
    go_enter Try.func9, Try.ntmps9
    go_wp2
    go_ret
    exact ⟨_, rfl, Hr.out, fun _ h => h, rfl⟩

theorem same_at {v u : Value} {l k : List Int} {w : World} (hv : Ints w v l) (hu : Ints w u k) (r : Bool) (hr : decide (l = k) = r) :
    Calls Try.prog 18 #[v, u] w fun e w' => e = .returned (.bool r) ∧ Pure w w' := by
  subst hr; exact same_any v u l k w hv hu


theorem Pure.kc {w a b : World} {base c : Nat} (h : Pure w a) (k : KC base c a b) (hb : w.heap.size ≤ base) : Pure w b :=
  ⟨k.os.trans h.os, k.tape.trans h.tape, k.output.trans h.output, Nat.le_trans h.size k.size, fun i hi => (k.low i (by omega) (Nat.lt_of_lt_of_le hi h.size)).trans (h.block i hi)⟩

set_option maxRecDepth 8000 in
set_option maxHeartbeats 1000000 in
theorem cusafe_any (base c : Nat) (S : CuS) (p : Int) (v : Value) (o : List Int) (w : World) (h : Cu w base c S) (hv : Ints w v o) (hw : (Lit.int .i64 p).wf = true) (hwo : AllWf o) (hl : o.length ≤ 1000) :
    Calls Try.prog 16 #[.pointer (some ⟨c, 0, none⟩), .int .i64 p, v] w fun r w' => r = .returned (.bool ((cfind S p).isSome && decide ((clack S p o).length = 0))) ∧ Pure w w' := by
  have hlack := hid (culack_any base c S p v o w h hv hw hwo hl)
  obtain ⟨mb, hb, bl, h⟩ := h
  have k0 : w.cell? ⟨c, 0, none⟩ = some (.map (some mb)) := cell_of_block h.blk 0
  have hlk := h.lookM2 p hw
  obtain ⟨av, cv, rfl⟩ := hv.shape
  have hlen : (clack S p o).length ≤ 1000 := by
    unfold clack
    split
    · simp
    · refine Nat.le_trans (dd_len _) (Nat.le_trans (List.length_filter_le _ _) hl)
  clear h hv
  generalize bs (cmark S p) = R at *
  generalize clack S p o = L at *
  cases hI : (cfind S p).isSome with
  | false =>
    rw [hI] at hlk
    clear hI
    go_enter Try.func16, Try.ntmps16
    go_wp2
    go_ret
    exact ⟨rfl, Below.refl _ _⟩
  | true =>
    rw [hI] at hlk
    clear hI
    by_cases h0 : L.length = 0
    · have e0 : ((L.length : Int) == 0) = true := by simp [h0]
      have H0 := hid h0
      clear h0
      go_enter Try.func16, Try.ntmps16
      go_wp2_with fail
      refine hlack.out.mono ?_
      rintro r w2 ⟨v2, rfl, hown, hp2⟩
      obtain ⟨a2, c2, rfl⟩ := own_shape_d hown
      have Hp2 := hid hp2
      clear hown hp2
      go_wp2
      go_ret
      exact ⟨ret_bool (by simp [H0.out]), Hp2.out⟩
    · have e0 : ((L.length : Int) == 0) = false := by rw [beq_eq_false_iff_ne]; omega
      have H0 := hid h0
      clear h0
      go_enter Try.func16, Try.ntmps16
      go_wp2_with fail
      refine hlack.out.mono ?_
      rintro r w2 ⟨v2, rfl, hown, hp2⟩
      obtain ⟨a2, c2, rfl⟩ := own_shape_d hown
      have Hp2 := hid hp2
      clear hown hp2
      go_wp2
      go_ret
      exact ⟨ret_bool (by simp [H0.out]), Hp2.out⟩

/-! ### the bags' marks -/
theorem num_small {n : Nat} (h : n < 128) : num n = [UInt8.ofNat n] := by
  unfold num; rw [numAcc_small h, Nat.mod_eq_of_lt h]
theorem num1 {n : Nat} (h : n < 128) : (num n).length = 1 := by rw [num_small h]; rfl
theorem oneB_bytes : ∀ k, k ≤ 7 → (bagB (oneB k)).length = 3 + (if k = 0 then 0 else 2) + 6 * k
  | 0, _ => by simp [oneB, bagB, ctxB, rowB, num_small]
  | 1, _ => by simp [oneB, bagB, ctxB, rowB, msgB, textB, dotB, om, num_small, List.range_succ]
  | 2, _ => by simp [oneB, bagB, ctxB, rowB, msgB, textB, dotB, om, num_small, List.range_succ]
  | 3, _ => by simp [oneB, bagB, ctxB, rowB, msgB, textB, dotB, om, num_small, List.range_succ]
  | 4, _ => by simp [oneB, bagB, ctxB, rowB, msgB, textB, dotB, om, num_small, List.range_succ]
  | 5, _ => by simp [oneB, bagB, ctxB, rowB, msgB, textB, dotB, om, num_small, List.range_succ]
  | 6, _ => by simp [oneB, bagB, ctxB, rowB, msgB, textB, dotB, om, num_small, List.range_succ]
  | 7, _ => by simp [oneB, bagB, ctxB, rowB, msgB, textB, dotB, om, num_small, List.range_succ]
  | n + 8, h => by omega
def mk (k : Nat) : List UInt8 := bagB (oneB k)
theorem mk_inj {j k : Nat} (hj : j ≤ 7) (hk : k ≤ 7) (h : mk j = mk k) : j = k := by
  have h1 := congrArg List.length h
  unfold mk at h1
  rw [oneB_bytes j hj, oneB_bytes k hk] at h1
  split at h1 <;> split at h1 <;> omega
theorem mk_ne (k : Nat) (hk : k ≤ 7) : mk k ≠ [] := by
  intro h
  have h1 := congrArg List.length h
  unfold mk at h1
  rw [oneB_bytes k hk] at h1
  simp at h1
theorem oneB_empty (k : Nat) : decide (oneB k = g0) = decide (k = 0) := by
  by_cases h : k = 0
  · subst h; simp [oneB]
  · simp [oneB, h]
theorem oneB_small {k : Nat} (h : k ≤ 7) : SmallG (oneB k) := by
  refine ⟨?_, ?_, ?_, ?_, ?_, ?_⟩
  · intro m hm
    simp only [oneB, List.mem_map, List.mem_range] at hm
    obtain ⟨i, hi, rfl⟩ := hm
    refine ⟨⟨?_, ?_, ?_, ?_⟩, ?_, ?_, ?_, ?_⟩ <;> simp [om] <;> omega
  · intro d hd
    unfold oneB at hd
    dsimp only at hd
    split at hd
    · simp at hd
    · simp at hd; subst hd; refine ⟨?_, ?_, ?_, ?_⟩ <;> dsimp only <;> omega
  · intro d hd; simp [oneB] at hd
  · simp [oneB]; omega
  · have := (oneB_len k).2.1; omega
  · simp [oneB]
end Go.Proofs.Ytofengnbedebpaa
