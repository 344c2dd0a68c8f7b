/- The document's own helpers in the claims' laws: ref08's Has and Majority, ref16's Once, ref01's Same; appends of rows of ints. -/
import Derived.Test.YtffafdkjgllpcaaSlices
import Derived.Deep.QuietTactic
import Derived.BigQuiet
import Derived.Laws.AppendOwnNone
namespace Go.Proofs.Ytffafdkjgllpcaa
open Go.RowKit Go.Maps
theorem ints_get {w : World} {a : Option Addr} {n cap : Nat} {l : List Int} (h : Ints w (.slice a n cap) l) {k : Nat} (hk : k < l.length) : ∃ b off, a = some ⟨b, off, none⟩ ∧ w.cell? ⟨b, off + k, none⟩ = some (.int .i64 (l.getD k 0)) := by
  obtain ⟨_, _, _, hc⟩ := h.cell
  rcases hc with ⟨h, _⟩ | ⟨bl, off, h, _, hc⟩
  · rw [h] at hk; exact absurd hk (Nat.not_lt_zero _)
  · exact ⟨bl, off, h, hc k hk⟩
theorem pure_dN (w : World) (n : Nat) : Pure w (w.drewN n) := ⟨rfl, rfl, rfl, Nat.le_refl _, fun _ _ => rfl⟩

/-- ref01's Same. -/
theorem same_short {l k : List Int} (h : l.length ≠ k.length) : decide (l = k) = false := by simp; exact fun e => h (by rw [e])
theorem same_take {l k : List Int} {i : Nat} (h : l.take i = k.take i) (h1 : i < l.length) (h2 : i < k.length) (e : l.getD i 0 = k.getD i 0) : l.take (i + 1) = k.take (i + 1) := by
  rw [take_succ_get l i h1, take_succ_get k i h2, h, e]
theorem same_full {l k : List Int} (h : l.length = k.length) (e : l.take l.length = k.take l.length) : decide (l = k) = true := by rw [List.take_length, h, List.take_length] at e; simp [e]
theorem same_not {l k : List Int} {i : Nat} (e : ¬ l.getD i 0 = k.getD i 0) : decide (l = k) = false := by simp; exact fun h => e (by rw [h])

set_option maxHeartbeats 1000000 in
theorem same_any (v u : Value) (l k : List Int) (w : World) (hv : Ints w v l) (hu : Ints w u k) :
    Calls Try.prog 16 #[v, u] w fun e w' => e = .returned (.bool (decide (l = k))) ∧ Pure w w' := by
  obtain ⟨a, ca, rfl⟩ := hv.shape
  obtain ⟨b, cb, rfl⟩ := hu.shape
  obtain ⟨_, h1, h2, hc⟩ := hv.cell
  obtain ⟨_, h3, h4, hd⟩ := hu.cell
  unfold maxLen at h2 h4
  clear hv hu
  by_cases hl : l.length = k.length
  · go_enter Try.func16, Try.ntmps16
    have hne : ((l.length : Int) != (k.length : Int)) = false := by simp [hl]
    have hl1 : l.length ≤ k.length := by omega
    have hl2 : k.length ≤ l.length := by omega
    have Hl := hid hl
    clear hl
    go_wp2
    go_loopw [5] (fun x wr => ∃ i : Nat, i ≤ l.length ∧ x = .int .i64 i ∧ l.take i = k.take i ∧ ∃ n, wr = w.drewN n) (fun x _ => l.length - (RowKit.intOf x).toNat)
    case atStart => exact ⟨0, Nat.zero_le _, rfl, by simp, 0, rfl⟩
    case round =>
      obtain ⟨i, hi, rfl, ht, n, rfl⟩ := hrel
      by_cases hlt : i < l.length
      · have hlk : i < k.length := by omega
        obtain ⟨ba, oa, rfl, hx⟩ : ∃ b off, a = some ⟨b, off, none⟩ ∧ w.cell? ⟨b, off + i, none⟩ = some (.int .i64 (l.getD i 0)) := by
          rcases hc with ⟨h, _⟩ | ⟨b, off, rfl, _, hcell⟩
          · rw [h] at hlt; exact absurd hlt (Nat.not_lt_zero _)
          · exact ⟨b, off, rfl, hcell i hlt⟩
        obtain ⟨bb, ob, rfl, hy⟩ : ∃ b_1 off, b = some ⟨b_1, off, none⟩ ∧ w.cell? ⟨b_1, off + i, none⟩ = some (.int .i64 (k.getD i 0)) := by
          rcases hd with ⟨h, _⟩ | ⟨b, off, rfl, _, hcell⟩
          · rw [h] at hlk; exact absurd hlk (Nat.not_lt_zero _)
          · exact ⟨b, off, rfl, hcell i hlk⟩
        have Hs := hid (same_take ht hlt hlk)
        have Hn := hid (@same_not l k i)
        have hlt' : (i : Int) < (l.length : Int) := by omega
        have hlk' : (i : Int) < (k.length : Int) := by omega
        clear hc hd ht
        generalize l.getD i 0 = x at *
        generalize k.getD i 0 = y at *
        by_cases hxy : x = y
        · have hb : (x != y) = false := by simp [hxy]
          have Hs' := hid (Hs.out hxy)
          clear hxy Hs Hn
          go_wp2_with fail
          go_quiet (fail)
          go_wp2
          go_roundw
          case rel => exact ⟨i + 1, by omega, by go_num, Hs'.out, _, rfl⟩
          case measure => simp [RowKit.intOf]; omega
        · have hb : (x != y) = true := by simp [hxy]
          have Hf := hid (Hn.out hxy)
          clear hxy Hs Hn
          go_wp2_with fail
          go_quiet (fail)
          go_wp2
          go_ret
          exact ⟨ret_bool Hf.out.symm, rfl, rfl, rfl, Nat.le_refl _, fun _ _ => rfl⟩
      · have e : i = l.length := by omega
        subst e
        have Hf := hid (same_full Hl.out ht)
        clear hc hd ht
        go_wp2
        go_ret
        exact ⟨ret_bool Hf.out.symm, pure_dN _ _⟩
  · have Hf := hid (same_short hl)
    have hne : ((l.length : Int) != (k.length : Int)) = true := by simp; omega
    clear hc hd
    go_enter Try.func16, Try.ntmps16
    go_wp2
    go_ret
    exact ⟨ret_bool Hf.out.symm, Below.refl _ _⟩
/-! The document's own: ref08's Has, Majority; ref16's Once; ref17's tally. -/

set_option maxHeartbeats 400000 in
theorem has_any (v : Value) (l : List Int) (x : Int) (w : World) (hr : Ints w v l) :
    Calls Try.prog 40 #[v, .int .i64 x] w fun e w' => e = .returned (.bool (decide (x ∈ l))) ∧ w = w' := by
  obtain ⟨a, cap, rfl⟩ := hr.shape
  obtain ⟨_, h1, h2, hc⟩ := hr.cell
  unfold maxLen at h2
  go_enter Try.func40, Try.ntmps40
  go_wp2
  go_loop [5] (fun i => ∃ k : Nat, k ≤ l.length ∧ i = .int .i64 k ∧ x ∉ l.take k) (fun i => l.length - (RowKit.intOf i).toNat)
  case atStart => exact ⟨0, Nat.zero_le _, rfl, by simp⟩
  case round =>
    obtain ⟨k, hk, rfl, hn⟩ := hrel
    by_cases hlt : k < l.length
    · obtain ⟨b, off, rfl, hbw, hcell⟩ : ∃ b off, a = some ⟨b, off, none⟩ ∧ b < w.heap.size ∧ ∀ i, i < l.length → w.cell? ⟨b, off + i, none⟩ = some (.int .i64 (l.getD i 0)) := by
        rcases hc with ⟨h, _⟩ | h
        · rw [h] at hlt; exact absurd hlt (Nat.not_lt_zero _)
        · exact h
      have hcx := hcell k hlt
      by_cases he : x = l.getD k 0
      · have Hx := hid (show decide (x ∈ l) = true by rw [he]; simp [List.getD, hlt])
        have ht : (l.getD k 0 == x) = true := by simpa using he.symm
        clear hcell hc hn he
        generalize l.getD k 0 = y at *
        go_wp2
        go_ret
        exact ⟨ret_bool Hx.out.symm, rfl⟩
      · have hn' := notin_take hlt hn he
        have Hn := hid hn'
        have ht : (l.getD k 0 == x) = false := by simpa using fun e => he e.symm
        clear hcell hc hn he hn'
        generalize l.getD k 0 = y at *
        go_wp2
        go_round
        case rel => exact ⟨k + 1, by omega, by go_num, Hn.out⟩
        case measure => simp [RowKit.intOf]; omega
    · have Hx := hid (show decide (x ∈ l) = false by rw [List.take_of_length_le (by omega)] at hn; simpa using hn)
      clear hc hn
      go_wp2
      go_ret
      exact ⟨ret_bool Hx.out.symm, rfl⟩

set_option maxHeartbeats 400000 in
theorem major_any (n : Nat) (w : World) (h1 : n ≤ 1000000) :
    Calls Try.prog 36 #[.int .i64 n] w fun e w' => e = .returned (.int .i64 ((n : Int) / 2 + 1)) ∧ w = w' := by
  by_cases hn : (n : Int) < 1
  · go_enter Try.func36, Try.ntmps36
    go_wp2
    go_ret
    exact ⟨ret_int (by omega), rfl⟩
  · go_enter Try.func36, Try.ntmps36
    go_wp2
    go_ret
    exact ⟨rfl, rfl⟩

set_option maxHeartbeats 1000000 in
theorem once16_any (v : Value) (l : List Int) (w : World) (hr : Ints w v l) (hl : l.length ≤ 1000000) :
    Calls Try.prog 34 #[v] w fun e w' => ∃ v', e = .returned v' ∧ w'.ownsRow w.heap.size 3 1 v' (dd l).length ((dd l).map (Value.int .i64)) ∧ Pure w w' := by
  obtain ⟨a, cap, rfl⟩ := hr.shape
  obtain ⟨i0, hi, hz0, hz1, hz2⟩ := info_parts infoInt
  have Hr := hid hr
  clear hr
  go_enter Try.func34, Try.ntmps34
  go_wp2
  go_loopw [3, 4] (fun v i wr => ∃ k : Nat, k ≤ l.length ∧ i = .int .i64 k ∧ wr.ownsRow w.heap.size 3 1 v (dd (l.take k)).length ((dd (l.take k)).map (Value.int .i64)) ∧ Pure w wr)
    (fun _ i _ => l.length - (RowKit.intOf i).toNat)
  case atStart => exact ⟨0, Nat.zero_le _, rfl, World.ownsRow_nil _ _ _ _, Below.refl _ _⟩
  case round =>
    obtain ⟨k, hk, rfl, hown, hb⟩ := hrel
    by_cases hlt : k < l.length
    · obtain ⟨bl, off, rfl, hcx⟩ := ints_get (show Ints wr (.slice a l.length cap) l from Row.pure Hr.out hb) hlt
      obtain ⟨a3, c3, rfl⟩ := (Row.of_own hown).shape
      have hh := has_any _ _ (l.getD k 0) wr (show Ints wr _ _ from Row.of_own hown)
      have Hdd := hid (dd_take l k hlt)
      have hdl := dd_len (l.take k)
      simp only [List.length_take] at hdl
      have hlt' : (k : Int) < (l.length : Int) := by omega
      have Hown := hid hown
      have Hb := hid hb
      clear hown hb
      generalize l.getD k 0 = x at *
      by_cases hm : x ∈ dd (l.take k)
      · rw [decide_eq_true hm] at hh
        have Hm := hid hm
        have Hh := hid hh
        clear hm hh
        go_wp2_with (go_at_call 40; refine Hh.out.mono ?_; rintro e w' ⟨rfl, rfl⟩)
        go_roundw
        case rel => exact ⟨k + 1, by omega, by go_num, by rw [Hdd.out, if_pos Hm.out]; exact Hown.out, Hb.out⟩
        case measure => simp [RowKit.intOf]; omega
      · rw [decide_eq_false hm] at hh
        have Hm := hid hm
        have Hh := hid hh
        clear hm hh
        go_wp2_with (first
          | (go_at_call 40; refine Hh.out.mono ?_; rintro e w' ⟨rfl, rfl⟩)
          | (at_builtin; refine wpList_append_own _ rfl _ _ 22 rfl w.heap.size 3 i0 (.int .i64 0) 1 8 Try.underlying22 hi hz0 hz1 hz2 rfl (by decide) _ _ _ rfl (Hown.out.alloc _) ⟨wr.heap.size, 0, none⟩ 1 1 [.int .i64 x] rfl rfl hnews_one ?c2 ?c3 ?c4 ?c5 ?_))
        case c2 => intro u hu; simp at hu; subst hu; rfl
        case c3 => unfold maxLen; omega
        case c4 => omega
        case c5 => have := Hb.out.size; simp; omega
        intro v' w2 hown2 hg2 _
        have Hown2 := hid hown2
        have Hg2 := hid hg2
        clear hown2 hg2
        go_wp2
        go_roundw
        case rel =>
          refine ⟨k + 1, by omega, by go_num, ?_, ?_⟩
          · rw [Hdd.out, if_neg Hm.out]; exact ownsRow_snoc Hown2.out
          · exact (Hb.out.alloc Hb.out.size _).grown Hg2.out (by have := Hb.out.size; simp; omega) (fun j hj => (Hown.out.lt j hj).1)
        case measure => simp [RowKit.intOf]; omega
    · have e : l.take k = l := List.take_of_length_le (by omega)
      rw [e] at hown
      obtain ⟨a3, c3, rfl⟩ := (Row.of_own hown).shape
      have Hown := hid hown
      have Hb := hid hb
      clear hown hb e
      go_wp2
      go_ret
      exact ⟨_, rfl, Hown.out, Hb.out⟩


theorem wpList_append_ints {ops : Array Oper} {rest : List Oper} {o : Oper} {a : Act} {Q : Exit → Act → World → Prop} {w : World} (hgd : o.guard = none) (s x : Operand)
    (ho : o.op = .call { callee := .builtin .append, args := #[s, x], argTypes := #[22, 22] }) (base : Nat) (v : Value) (xs : List Int) (hs : a.eval s = v)
    (hown : w.ownsRow base 3 1 v xs.length (xs.map (Value.int .i64))) (u : Value) (k : List Int) (hx : a.eval x = u) (hu : Ints w u k) (hlen : xs.length + k.length ≤ 1000000) (hbase : base ≤ w.heap.size)
    (h : ∀ v' w', w'.ownsRow base 3 1 v' (xs ++ k).length ((xs ++ k).map (Value.int .i64)) → w.grownBy w' v.ownBlock → wpList Try.prog ops Q rest (a.put o.dst v') w') : wpList Try.prog ops Q (o :: rest) a w := by
  obtain ⟨i0, hi, hz0, hz1, hz2⟩ := info_parts infoInt
  obtain ⟨ad, cap, rfl⟩ := hu.shape
  obtain ⟨_, h1, h2, hc⟩ := hu.cell
  have hm : (1 : Nat) ≤ 1 := Nat.le_refl _
  have fin : ∀ v' w', w'.ownsRow base 3 1 v' (xs.length + k.length) (xs.map (Value.int .i64) ++ k.map (Value.int .i64)) → w.grownBy w' v.ownBlock → wpList Try.prog ops Q rest (a.put o.dst v') w' := fun v' w' q1 q2 => h v' w' (by rw [List.length_append, List.map_append]; exact q1) q2
  cases ad with
  | none =>
    rcases hc with ⟨rfl, rfl⟩ | ⟨_, _, e, _⟩
    · exact wpList_append_own_none hgd s x _ ho base 3 i0 1 Try.underlying22 hi v _ _ hs hown hx (h v w (by simpa using hown) (World.grownBy.refl _ _))
    · cases e
  | some ad =>
    refine wpList_append_own _ hgd s x 22 ho base 3 i0 (.int .i64 0) 1 8 Try.underlying22 hi hz0 hz1 hz2 rfl (by decide) v _ _ hs hown ad k.length cap (k.map (Value.int .i64)) hx (by simp) (fun j u hj => ?_) (fun u hu => ?_) (by unfold maxLen; omega) (by omega) hbase (fun v' w' q1 q2 _ => fin v' w' q1 q2)
    · rcases hc with ⟨rfl, rfl⟩ | ⟨b, off, e, _, hcell⟩
      · simp at hj
      · cases e
        obtain ⟨hjk, rfl⟩ := List.getElem?_eq_some_iff.1 hj
        have hjk' : j < k.length := by simpa using hjk
        have := hcell j hjk'
        rw [Addr.add_lit, this]
        simp [List.getD, hjk']
    · simp at hu; obtain ⟨_, _, rfl⟩ := hu; rfl

theorem ints_pre {w : World} {b off n cap : Nat} {l : List Int} (h : Ints w (.slice (some ⟨b, off, none⟩) n cap) l) {k : Nat} (hk : k ≤ l.length) : Ints w (.slice (some ⟨b, off, none⟩) k cap) (l.take k) := by
  obtain ⟨rfl, h1, h2, hc⟩ := h.cell
  have e : (l.take k).length = k := by simp; omega
  refine ⟨by simp, _, cap, by rw [e], by omega, h2, ?_⟩
  rcases hc with ⟨h, hz⟩ | ⟨b', off', e', hb, hcell⟩
  · exact .inl hz
  · cases e'
    refine .inr ⟨b, off, rfl, hb, fun i hi => ?_⟩
    rw [e] at hi
    rw [hcell i (by omega)]
    simp [List.getD, show i < l.length by omega, show i < k by omega]
theorem ints_suf {w : World} {b off n cap : Nat} {l : List Int} (h : Ints w (.slice (some ⟨b, off, none⟩) n cap) l) {k : Nat} (hk : k ≤ l.length) : Ints w (.slice (some ⟨b, off + k, none⟩) (l.length - k) (cap - k)) (l.drop k) := by
  obtain ⟨rfl, h1, h2, hc⟩ := h.cell
  have e : (l.drop k).length = l.length - k := by simp
  refine ⟨by simp, _, _, by rw [e], by omega, by omega, ?_⟩
  rcases hc with ⟨h, hz⟩ | ⟨b', off', e', hb, hcell⟩
  · left; omega
  · cases e'
    refine .inr ⟨b, off + k, rfl, hb, fun i hi => ?_⟩
    rw [e] at hi
    rw [Nat.add_assoc, hcell (k + i) (by omega)]
    simp [List.getD, show k + i < l.length by omega]

theorem drop_step {l : List Int} {k : Nat} {x : Int} (hk : k < l.length) (h : ∀ z ∈ l.drop (k + 1), x ≤ z) (hx : x < l.getD k 0) : ∀ z ∈ l.drop k, x ≤ z := by
  intro z hz
  rw [List.drop_eq_getElem_cons hk] at hz
  rcases List.mem_cons.1 hz with rfl | hz
  · have e : l[k] = l.getD k 0 := by simp [List.getD, hk]
    rw [e]; omega
  · exact h z hz

theorem wpList_append_n {ops : Array Oper} {rest : List Oper} {o : Oper} {a : Act} {Q : Exit → Act → World → Prop} {w : World} (hgd : o.guard = none) (s x : Operand)
    (ho : o.op = .call { callee := .builtin .append, args := #[s, x], argTypes := #[22, 22] }) (base : Nat) (v : Value) (xs : List Int) (n : Nat) (hn : xs.length = n) (hs : a.eval s = v)
    (hown : w.ownsRow base 3 1 v n (xs.map (Value.int .i64))) (u : Value) (k : List Int) (m : Nat) (hm : k.length = m) (hx : a.eval x = u) (hu : Ints w u k) (hlen : n + m ≤ 1000000) (hbase : base ≤ w.heap.size)
    (h : ∀ v' w', w'.ownsRow base 3 1 v' (n + m) ((xs ++ k).map (Value.int .i64)) → w.grownBy w' v.ownBlock → wpList Try.prog ops Q rest (a.put o.dst v') w') : wpList Try.prog ops Q (o :: rest) a w := by
  subst hn; subst hm
  exact wpList_append_ints hgd s x ho base v xs hs hown u k hx hu hlen hbase (fun v' w' q1 q2 => h v' w' (by rw [List.length_append] at q1; exact q1) q2)
theorem own_plain {w : World} {base n : Nat} {v : Value} {xs : List Value} (h : w.ownsRow base 3 1 v n xs) : ∃ p n c, v = .slice p n c ∧ (p = none ∨ ∃ g o, p = some ⟨g, o, none⟩) := by
  obtain ⟨_, ⟨rfl, _⟩ | ⟨g, cap, cur, rfl, _⟩⟩ := h
  · exact ⟨_, _, _, rfl, .inl rfl⟩
  · exact ⟨_, _, _, rfl, .inr ⟨_, _, rfl⟩⟩
theorem own_shape {w : World} {base n : Nat} {v : Value} {xs : List Value} (h : w.ownsRow base 3 1 v n xs) : ∃ a c, v = .slice a n c := (Row.of_own h).shape

end Go.Proofs.Ytffafdkjgllpcaa
