/- law18's CustodyApart. -/
import Derived.Test.YtofengnbedebpaaCus7
namespace Go.Proofs.Ytofengnbedebpaa
open Go.RowKit Go.Maps Go.MapKept

theorem and15 (n : Int) : 0 ≤ bits .and .i64 n 15 ∧ bits .and .i64 n 15 ≤ 15 := by
  show 0 ≤ IntKind.i64.wrap ((BitVec.ofInt 64 n &&& BitVec.ofInt 64 15).toNat : Int) ∧ IntKind.i64.wrap ((BitVec.ofInt 64 n &&& BitVec.ofInt 64 15).toNat : Int) ≤ 15
  have hx : (BitVec.ofInt 64 n &&& BitVec.ofInt 64 15).toNat ≤ 15 := by
    rw [BitVec.toNat_and]
    exact Nat.le_trans Nat.and_le_right (by decide)
  rw [IntWalk.i64_in _ (by omega)]
  omega
theorem and3 (n : Int) : 0 ≤ bits .and .i64 n 3 ∧ bits .and .i64 n 3 ≤ 3 := by
  show 0 ≤ IntKind.i64.wrap ((BitVec.ofInt 64 n &&& BitVec.ofInt 64 3).toNat : Int) ∧ IntKind.i64.wrap ((BitVec.ofInt 64 n &&& BitVec.ofInt 64 3).toNat : Int) ≤ 3
  have hx : (BitVec.ofInt 64 n &&& BitVec.ofInt 64 3).toNat ≤ 3 := by
    rw [BitVec.toNat_and]
    exact Nat.le_trans Nat.and_le_right (by decide)
  rw [IntWalk.i64_in _ (by omega)]
  omega
theorem n7_small : ∀ k : Nat, k ≤ 7 → n7 (k : Int) = k
  | 0, _ => by decide
  | 1, _ => by decide
  | 2, _ => by decide
  | 3, _ => by decide
  | 4, _ => by decide
  | 5, _ => by decide
  | 6, _ => by decide
  | 7, _ => by decide
  | _ + 8, h => by omega

theorem one_to2 {k : Nat} (n : Int) (w : World) (hk : n7 n = k) :
    Calls Try.prog 10 #[.int .i64 n] w fun r w' => ∃ p0 s0 p1 s1 p2 s2, r = .returned (.agg #[.slice p0 (oneB k).1.length s0, .slice p1 (oneB k).2.1.length s1, .slice p2 (oneB k).2.2.length s2]) ∧ BagAt w' (.agg #[.slice p0 (oneB k).1.length s0, .slice p1 (oneB k).2.1.length s1, .slice p2 (oneB k).2.2.length s2]) (oneB k) ∧ Pure w w' := by
  refine (one_to n w hk).mono ?_
  rintro r w' ⟨v0, v1, v2, rfl, hat, hp⟩
  have h := hat
  obtain ⟨y0, y1, y2, e, h0, h1, h2⟩ := h
  obtain ⟨rfl, rfl, rfl⟩ := agg3 e
  obtain ⟨p0, s0, rfl⟩ := h0.shape
  obtain ⟨p1, s1, rfl⟩ := h1.shape
  obtain ⟨p2, s2, rfl⟩ := h2.shape
  exact ⟨p0, s0, p1, s1, p2, s2, rfl, hat, hp⟩
theorem cunew_to (w : World) {n c : Nat} (hn : n = w.heap.size) (hc : c = w.heap.size + 2) :
    Calls Try.prog 11 #[] w fun e w' => e = .returned (.pointer (some ⟨c, 0, none⟩)) ∧ Cu w' n c [] ∧ Pure w w' := by
  subst hn; subst hc; exact cunew_any w
/-- Where the bag x lies, in a block below n; nothing of it is the custody's. -/
theorem bag_stays {n c X : Nat} {w3 : World} {T : TypeId} {y0 y1 y2 : Value} {g : Bag} (hX : X < n) (hb : w3.heap[X]? = some (.cells #[y0, y1, y2] T (0, 0))) (hat : BagAt w3 (.agg #[y0, y1, y2]) g) (hc : ∀ k, (y0.rb = some k ∨ y1.rb = some k ∨ y2.rb = some k) → k ≠ c) :
    ∀ W, KC n c w3 W → W.cell? ⟨X, 0, none⟩ = some y0 ∧ W.cell? ⟨X, 1, none⟩ = some y1 ∧ W.cell? ⟨X, 2, none⟩ = some y2 ∧ BagAt W (.agg #[y0, y1, y2]) g := fun W hW => by
  have e := (hW.low X hX (lt_of_block hb)).trans hb
  refine ⟨cell_of_block e 0, cell_of_block e 1, cell_of_block e 2, hat.kc hW (fun v0 v1 v2 ev => ?_)⟩
  obtain ⟨rfl, rfl, rfl⟩ := agg3 ev
  exact ⟨fun k hk => hc k (.inl hk), fun k hk => hc k (.inr (.inl hk)), fun k hk => hc k (.inr (.inr hk))⟩

/-- The custody behind i that have heard. -/
def apSt (a b : Int) (m : List UInt8) (o : List Int) (i : Nat) : CuS := if a = b then [(a, m, dd (o.take i))] else [(a, m, dd (o.take i)), (b, m, [])]
theorem ap_keep1 (a : Int) (k : Nat) (hk : 1 ≤ k) : ckeep [] a (mk k) (decide (k = 0)) = ([(a, mk k, [])], true) := by
  have : decide (k = 0) = false := by simp; omega
  rw [this]; rfl
theorem ap_keep2 (a b : Int) (k : Nat) (hk : 1 ≤ k) : ckeep [(a, mk k, [])] b (mk k) (decide (k = 0)) = (apSt a b (mk k) [] 0, decide (a ≠ b)) := by
  have h0 : decide (k = 0) = false := by simp; omega
  rw [h0]
  unfold apSt ckeep cfind
  by_cases h : a = b
  · subst h; simp [dd, ddo]
  · have h1 : (a == b) = false := by simpa using h
    simp [h1, h, cset, dd, ddo]
theorem apSt_nil (a b : Int) (m : List UInt8) (o : List Int) : apSt a b m [] 0 = apSt a b m o 0 := by unfold apSt; simp
theorem ap_heard (a b : Int) (m : List UInt8) (o : List Int) (i : Nat) (hi : i < o.length) : (cheard (apSt a b m o i) a (o.getD i 0) m).1 = apSt a b m o (i + 1) := by
  have hd := dd_take o i hi
  unfold apSt cheard cfind
  by_cases h : a = b
  · subst h
    rw [if_pos rfl, if_pos rfl, hd]
    by_cases hm : o.getD i 0 ∈ dd (o.take i)
    · simp only [List.find?_cons, BEq.rfl, hm]; simp
    · simp only [List.find?_cons, BEq.rfl, hm]; simp [cset]
  · rw [if_neg h, if_neg h, hd]
    by_cases hm : o.getD i 0 ∈ dd (o.take i)
    · simp only [List.find?_cons, BEq.rfl, hm]; simp
    · simp only [List.find?_cons, BEq.rfl, hm]; simp [cset]
theorem ddo_mem (l : List Int) : ∀ acc x, x ∈ acc ∨ x ∈ l → x ∈ ddo acc l := by
  induction l with
  | nil => intro acc x h; rcases h with h | h; · exact h
           · simp at h
  | cons y l ih =>
    intro acc x h
    unfold ddo
    refine ih _ x ?_
    rcases h with h | h
    · left; split
      · exact h
      · simp [h]
    · rcases List.mem_cons.1 h with rfl | h
      · left; split
        · assumption
        · simp
      · exact .inr h
theorem ap_lackA (a b : Int) (m : List UInt8) (o : List Int) : clack (apSt a b m o o.length) a o = [] := by
  have hf : o.filter (fun x => decide (x ∉ dd o)) = [] := by
    rw [List.filter_eq_nil_iff]
    intro x hx
    have := ddo_mem o [] x (.inr hx)
    simp [dd, this]
  unfold clack apSt cfind
  rw [List.take_length]
  by_cases h : a = b
  · subst h; simp only [if_pos, List.find?_cons, BEq.rfl]; rw [hf]; rfl
  · simp only [if_neg h, List.find?_cons, BEq.rfl]; rw [hf]; rfl
theorem ap_lackB (a b : Int) (h : a ≠ b) (m : List UInt8) (o : List Int) (i : Nat) : clack (apSt a b m o i) b o = dd o := by
  have h1 : (a == b) = false := by simpa using h
  have e : o.filter (fun x => decide (x ∉ ([] : List Int))) = o := List.filter_eq_self.2 (by simp)
  unfold clack apSt cfind
  rw [if_neg h]
  simp only [List.find?_cons, h1, BEq.rfl]
  rw [e]
theorem ap_none (a b : Int) (ha : a ≤ 15) (hb : b ≤ 15) (m : List UInt8) (o : List Int) (i : Nat) : cfind (apSt a b m o i) 16 = none := by
  have h1 : (a == 16) = false := by simp; omega
  have h2 : (b == 16) = false := by simp; omega
  unfold cfind apSt
  split <;> simp [h1, h2]
theorem dd_len0 (o : List Int) : ((dd o).length = 0) ↔ (o.length = 0) := by
  constructor
  · intro h
    cases o with
    | nil => rfl
    | cons x o =>
      have := ddo_mem (x :: o) [] x (.inr (by simp))
      unfold dd at h
      rw [List.length_eq_zero_iff.1 h] at this
      simp at this
  · intro h
    have : o = [] := List.length_eq_zero_iff.1 h
    subst this; rfl

set_option maxRecDepth 8000 in
set_option maxHeartbeats 4000000 in
theorem apart_walk (q0 q1 q2 : Int) (v : Value) (l : List Int) (w : World) (hr : Ints w v l) (hwf : AllWf l) :
    Calls Try.prog 3 #[.agg #[.int .i64 q0, .int .i64 q1, .int .i64 q2], v] w fun e w' => e = .returned (.bool true) ∧ Pure w w' := by
  obtain ⟨a, ha⟩ : ∃ a, bits .and .i64 q0 15 = a := ⟨_, rfl⟩
  obtain ⟨b, hb⟩ : ∃ b, bits .and .i64 q1 15 = b := ⟨_, rfl⟩
  obtain ⟨k, hk⟩ : ∃ k : Nat, bits .and .i64 q2 3 = (k : Int) := ⟨(bits .and .i64 q2 3).toNat, by have := and3 q2; omega⟩
  have a1 : 0 ≤ a ∧ a ≤ 15 := by rw [← ha]; exact and15 q0
  have b1 : 0 ≤ b ∧ b ≤ 15 := by rw [← hb]; exact and15 q1
  have k1 : k ≤ 3 := by have := and3 q2; omega
  obtain ⟨a0, a15⟩ := a1
  obtain ⟨b0, b15⟩ := b1
  have wa : (Lit.int .i64 a).wf = true := wf_i64 a (by omega)
  have wb : (Lit.int .i64 b).wf = true := wf_i64 b (by omega)
  have hfl := few_le l
  have hfw := few_wf hwf
  have hone := hid (fun W => one_to2 (k := 1 + k) (1 + (k : Int)) W (by have := n7_small (1 + k) (by omega); rw [← this]; congr 1))
  have hwz := hid (show Pure w (w.alloc (.cells #[.int .i64 q0, .int .i64 q1, .int .i64 q2] 22)) from (Below.refl _ _).alloc (Nat.le_refl _) _)
  obtain ⟨wz, hwze⟩ : ∃ wz, wz = w.alloc (.cells #[.int .i64 q0, .int .i64 q1, .int .i64 q2] 22) := ⟨_, rfl⟩
  have hq : Hid (∀ W, Pure wz W → W.cell? ⟨w.heap.size, 0, none⟩ = some (.int .i64 q0) ∧ W.cell? ⟨w.heap.size, 1, none⟩ = some (.int .i64 q1) ∧ W.cell? ⟨w.heap.size, 2, none⟩ = some (.int .i64 q2)) := fun W hW => by
    have e0 : W.heap[w.heap.size]? = some (.cells #[.int .i64 q0, .int .i64 q1, .int .i64 q2] 22 (0, 0)) := (hW.block _ (by rw [hwze]; simp)).trans (by rw [hwze]; exact block_alloc_new _ _)
    exact ⟨cell_of_block e0 0, cell_of_block e0 1, cell_of_block e0 2⟩
  rw [← hwze] at hwz
  have Hl := hid (fun W (hW : Pure w W) => few_any v l W (Row.pure hr hW))
  obtain ⟨av, cv, rfl⟩ := hr.shape
  clear hr hwf
  go_enter Try.func3, Try.ntmps3
  go_wp2_with fail
  rw [← hwze]
  clear hwze
  refine (awake_any wz).mono ?_
  rintro e w1 ⟨rfl, hp1⟩
  have Hp1 := hid hp1
  clear hp1
  go_wp2_with fail
  refine (Hl.out w1 (hwz.out.then_ Hp1.out)).mono ?_
  rintro e w1' ⟨vo, rfl, hints, -, rfl⟩
  have Ho := hid hints
  generalize few l = o at *
  obtain ⟨ao, co, rfl⟩ := hints.shape
  clear hints
  obtain ⟨f0, f1, f2⟩ := hq.out w1 Hp1.out
  go_wp2_with fail
  refine (hone.out w1).mono ?_
  rintro e w2 ⟨p0, s0, p1, s1, p2, s2, rfl, hat, hp2⟩
  have hm := hid (oneB_small (k := 1 + k) (by omega))
  generalize hL0 : (oneB (1 + k)).1.length = n0 at *
  generalize hL1 : (oneB (1 + k)).2.1.length = n1 at *
  generalize hL2 : (oneB (1 + k)).2.2.length = n2 at *
  clear hL0 hL1 hL2
  obtain ⟨wX, hwX⟩ : ∃ wX, wX = w2.alloc (.cells #[.slice p0 n0 s0, .slice p1 n1 s1, .slice p2 n2 s2] 31) := ⟨_, rfl⟩
  obtain ⟨X, hX⟩ : ∃ X, X = w2.heap.size := ⟨_, rfl⟩
  obtain ⟨n, hn⟩ : ∃ n, n = wX.heap.size := ⟨_, rfl⟩
  obtain ⟨c, hc⟩ : ∃ c, c = wX.heap.size + 2 := ⟨_, rfl⟩
  have HpX := hid (show Pure w2 wX from by rw [hwX]; exact (Below.refl _ _).alloc (Nat.le_refl _) _)
  have hbX : wX.heap[X]? = some (.cells #[.slice p0 n0 s0, .slice p1 n1 s1, .slice p2 n2 s2] 31 (0, 0)) := by rw [hwX, hX]; exact block_alloc_new _ _
  have hatX := hat.pure HpX.out
  have Hw2 := hid ((hwz.out.then_ Hp1.out).then_ hp2)
  have HwX := hid (Hw2.out.then_ HpX.out)
  have HoX := hid (show Ints wX (.slice ao o.length co) o from (Row.pure Ho.out hp2).pure HpX.out)
  have Hnew := hid (cunew_to wX hn hc)
  have HX := hid (And.intro hbX (And.intro hatX (And.intro hX (And.intro hn hc))))
  clear hat hp2 hbX hatX f0 f1 f2
  go_wp2_with fail
  rw [← hwX, ← hX]
  clear hwX hX hn hc
  refine Hnew.out.mono ?_
  rintro e w3 ⟨rfl, hc3, hp3⟩
  have hsz : X < n := by rw [HX.out.2.2.2.1]; exact lt_of_block HX.out.1
  have hst : Hid (∀ W, KC n c w3 W → (W.cell? ⟨X, 0, none⟩ = some (.slice p0 n0 s0) ∧ W.cell? ⟨X, 1, none⟩ = some (.slice p1 n1 s1) ∧ W.cell? ⟨X, 2, none⟩ = some (.slice p2 n2 s2) ∧ BagAt W (.agg #[.slice p0 n0 s0, .slice p1 n1 s1, .slice p2 n2 s2]) (oneB (1 + k))) ∧ Ints W (.slice ao o.length co) o ∧ Pure w W) := fun W hW => by
    obtain ⟨hbX, hatX, -, hn, hc⟩ := HX.out
    obtain ⟨y0, y1, y2, ey, h0, h1, h2⟩ := hatX
    obtain ⟨rfl, rfl, rfl⟩ := agg3 ey
    refine ⟨bag_stays hsz ((hp3.block _ (lt_of_block hbX)).trans hbX) (BagAt.pure ⟨_, _, _, rfl, h0, h1, h2⟩ hp3) (fun q hq => ?_) W hW, ?_, ?_⟩
    · rcases hq with hq | hq | hq
      · have := Row.lt h0 q hq; omega
      · have := Row.lt h1 q hq; omega
      · have := Row.lt h2 q hq; omega
    · exact hW.row (Row.pure HoX.out hp3) (fun q hq => by have := Row.lt HoX.out q hq; omega)
    · exact (HwX.out.then_ hp3).kc hW (by have := HwX.out.size; omega)
  have Hc3 := hid hc3
  clear hc3 hp3 hsz
  obtain ⟨⟨f0, f1, f2, hat3⟩, -, -⟩ := hst.out w3 (KC.refl _ _ _)
  have hk1 := hid (keep_to Hc3.out hat3 (by omega) wa (ap_keep1 a (1 + k) (by omega)))
  clear hat3
  go_wp2_with fail
  refine hk1.out.mono ?_
  rintro e w4 ⟨rfl, hc4, hk4⟩
  have Hk4 := hid hk4
  clear hk4 f0 f1 f2
  obtain ⟨⟨f0, f1, f2, hat4⟩, -, -⟩ := hst.out w4 Hk4.out
  have hk2 := hid (keep_to hc4 hat4 (by omega) wb (ap_keep2 a b (1 + k) (by omega)))
  rw [apSt_nil a b _ o] at hk2
  clear hc4 hat4
  have hbm := hid (fun W hat => bytes_to (k := 1 + k) (v := .agg #[.slice p0 n0 s0, .slice p1 n1 s1, .slice p2 n2 s2]) (w := W) hat (by omega))
  generalize mk (1 + k) = m at *
  have hE : decide (a ≠ b) = !(a == b) := by by_cases h : a = b <;> simp [h]
  rw [hE] at hk2
  have hzz := hid (show (a == b) = false → decide ((clack (apSt a b m o o.length) b o).length = 0) = decide (o.length = 0) from fun h => by rw [ap_lackB a b (by simpa using h)]; exact decide_eq_decide.2 (dd_len0 o))
  have hlA := hid (ap_lackA a b m o)
  have hnn := hid (ap_none a b a15 b15 m o o.length)
  have hhd := hid (fun j hj => ap_heard a b m o j hj)
  clear hE
  have hne : (a != b) = !(a == b) := rfl
  generalize hEe : (a == b) = E at *
  go_wp2_with fail
  refine hk2.out.mono ?_
  rintro e w5 ⟨rfl, hc5, hk5⟩
  have Hk5 := hid (Hk4.out.trans hk5)
  have Hc5 := hid hc5
  clear hk5 hc5 f0 f1 f2
  cases E <;>
  · go_wp2
    go_loopw [11] (fun i wr => ∃ j : Nat, j ≤ o.length ∧ i = .int .i64 j ∧ Cu wr n c (apSt a b m o j) ∧ KC n c w3 wr) (fun i _ => o.length - (RowKit.intOf i).toNat)
    case atStart => exact ⟨0, Nat.zero_le _, rfl, Hc5.out, Hk5.out⟩
    case round =>
      obtain ⟨j, hj, rfl, hcu, hkc⟩ := hrel
      by_cases hlt : j < o.length
      · have hlt' : (j : Int) < (o.length : Int) := by omega
        obtain ⟨bo, oo, rfl, -, -⟩ := ints_get_j (hst.out wr hkc).2.1 hlt
        have wx := hfw.get hlt
        have hhd' := hid (hhd.out j hlt)
        have hS : Hid (∀ W, KC n c w3 W → (W.cell? ⟨bo, oo + j, none⟩ = some (.int .i64 (o.getD j 0)) ∧ W.cell? ⟨X, 0, none⟩ = some (.slice p0 n0 s0) ∧ W.cell? ⟨X, 1, none⟩ = some (.slice p1 n1 s1) ∧ W.cell? ⟨X, 2, none⟩ = some (.slice p2 n2 s2) ∧ KC n c w3 W)) := fun W hW => by
          obtain ⟨⟨g0, g1, g2, _⟩, gi, _⟩ := hst.out W hW
          obtain ⟨b', o', e', _, hx⟩ := ints_get_j gi hlt
          cases e'
          exact ⟨hx, g0, g1, g2, hW⟩
        have hS2 : Hid (∀ W : World, (W.cell? ⟨bo, oo + j, none⟩ = some (.int .i64 (o.getD j 0)) ∧ W.cell? ⟨X, 0, none⟩ = some (.slice p0 n0 s0) ∧ W.cell? ⟨X, 1, none⟩ = some (.slice p1 n1 s1) ∧ W.cell? ⟨X, 2, none⟩ = some (.slice p2 n2 s2) ∧ KC n c w3 W) → KC n c w3 W) := fun W h => h.2.2.2.2
        have hh := hid (fun W hC => cuheard_any n c (apSt a b m o j) a (o.getD j 0) m W hC wa wx)
        have hby := hid (fun W (hW : KC n c w3 W) => hbm.out W (hst.out W hW).1.2.2.2)
        generalize (cheard (apSt a b m o j) a (o.getD j 0) m).1 = S2 at *
        generalize (cheard (apSt a b m o j) a (o.getD j 0) m).2 = b2 at *
        generalize apSt a b m o j = S1 at *
        generalize o.getD j 0 = x at *
        generalize bs m = M at *
        have hC0 : Cu wr.drew n c S1 := hcu.pure (Below.refl _ _).drew
        have hst0 := hid (hS.out wr.drew (hkc.trans (KC.pure (Below.refl _ _).drew)))
        clear hkc hcu
        go_wp2_with fail
        go_region_held3 (fun W => W.cell? ⟨bo, oo + j, none⟩ = some (.int .i64 x) ∧ W.cell? ⟨X, 0, none⟩ = some (.slice p0 n0 s0) ∧ W.cell? ⟨X, 1, none⟩ = some (.slice p1 n1 s1) ∧ W.cell? ⟨X, 2, none⟩ = some (.slice p2 n2 s2) ∧ KC n c w3 W)
          (first | with_reducible exact hst0.out | with_reducible exact hS.out _ (KC.trans (hS2.out _ (by assumption)) (KC.pure (by assumption))) | with_reducible exact hS.out _ (KC.trans (hS2.out _ (by assumption)) (by assumption)))
          (first
            | (go_at_call 14; with_reducible refine (hby.out _ (hS2.out _ (by assumption))).mono ?_; rintro e w6 ⟨rfl, hp6⟩; have hC6 : Cu w6 n c S1 := Cu.pure (by assumption) hp6)
            | (go_at_call 13; with_reducible refine (hh.out _ (by assumption)).mono ?_; rintro e w6 ⟨rfl, hC7, hk7⟩))
        have HC7 := hid hC7
        have Hk7 := hid (hS2.out w6 (by assumption))
        clear hC7 hk7 hst0 hC0
        go_wp2
        go_roundw
        case rel => exact ⟨j + 1, by omega, by go_num, by rw [← hhd'.out]; exact HC7.out, Hk7.out⟩
        case measure => simp [RowKit.intOf]; omega
      · have hlt' : ¬ (j : Int) < (o.length : Int) := by omega
        obtain rfl : j = o.length := by omega
        obtain ⟨-, hio, hpw⟩ := hst.out wr hkc
        have hlB := hid (lack_to hcu hio wb hfw (by omega) (l := clack (apSt a b m o o.length) b o) rfl)
        have hlkA' := hid (fun W (hW : Pure wr W) => lack_to (hcu.pure hW) (Row.pure hio hW) wa hfw (by omega) hlA.out)
        have hlkN := hid (fun W (hW : Pure wr W) => lack_to (hcu.pure hW) (Row.pure hio hW) (p := 16) rfl hfw (by omega) (l := []) (by unfold clack; rw [hnn.out]))
        have hsafe := hid (fun W (hW : Pure wr W) => (show Calls _ _ _ _ _ from by have := cusafe_any n c _ 16 _ o W (hcu.pure hW) (Row.pure hio hW) rfl hfw (by omega); rw [hnn.out] at this; exact this))
        have Hpw := hid hpw
        clear hcu hkc hio hpw
        have hLb : (clack (apSt a b m o o.length) b o).length ≤ 1000 := by
          unfold clack
          split
          · simp
          · refine Nat.le_trans (dd_len _) (Nat.le_trans (List.length_filter_le _ _) (by omega))
        generalize clack (apSt a b m o o.length) b o = LB at *
        generalize apSt a b m o o.length = S1 at *
        have z1 : ((LB.length : Int) == 0) = decide (LB.length = 0) := by by_cases h : LB.length = 0 <;> simp [h] <;> omega
        have z2 : ((o.length : Int) == 0) = decide (o.length = 0) := by by_cases h : o.length = 0 <;> simp [h] <;> omega
        go_wp2_with fail
        refine hlB.out.mono ?_
        rintro e w7 ⟨a7, c7, rfl, hown7, hp7⟩
        have HpB := hid hp7
        have hlkA := hid (hlkA'.out w7 hp7)
        clear hown7 hp7
        first
        | (have hz3 := hzz.out trivial
           rw [hz3] at z1
           clear hz3
           generalize decide (o.length = 0) = Z at *
           cases Z <;>
           · go_wp2_with fail
             refine (hlkA.out).mono ?_
             rintro e w8 ⟨a8, c8, rfl, hown8, hp8⟩
             have Hp8 := hid (HpB.out.then_ hp8)
             clear hown8 hp8
             go_wp2_with fail
             refine (hlkN.out w8 Hp8.out).mono ?_
             rintro e w9 ⟨a9, c9, rfl, hown9, hp9⟩
             have Hp9 := hid (Hp8.out.then_ hp9)
             clear hown9 hp9
             go_wp2_with fail
             refine (hsafe.out w9 Hp9.out).mono ?_
             rintro e w10 ⟨rfl, hp10⟩
             have Hp10 := hid (Hpw.out.then_ (Hp9.out.then_ hp10))
             clear hp10
             go_wp2
             go_ret
             exact ⟨rfl, Hp10.out⟩)
        | (go_wp2_with fail
           refine (hlkA.out).mono ?_
           rintro e w8 ⟨a8, c8, rfl, hown8, hp8⟩
           have Hp8 := hid (HpB.out.then_ hp8)
           clear hown8 hp8
           go_wp2_with fail
           refine (hlkN.out w8 Hp8.out).mono ?_
           rintro e w9 ⟨a9, c9, rfl, hown9, hp9⟩
           have Hp9 := hid (Hp8.out.then_ hp9)
           clear hown9 hp9
           go_wp2_with fail
           refine (hsafe.out w9 Hp9.out).mono ?_
           rintro e w10 ⟨rfl, hp10⟩
           have Hp10 := hid (Hpw.out.then_ (Hp9.out.then_ hp10))
           clear hp10
           go_wp2
           go_ret
           exact ⟨rfl, Hp10.out⟩)
end Go.Proofs.Ytofengnbedebpaa
