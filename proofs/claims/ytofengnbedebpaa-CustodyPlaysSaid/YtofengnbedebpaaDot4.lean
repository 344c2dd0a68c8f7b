/- ref03: Sort, Of. -/
import Derived.Test.YtofengnbedebpaaDot3
namespace Go.Proofs.Ytofengnbedebpaa
open Go.RowKit Go.Maps

theorem infoDot : (Try.prog.info? 67).map (fun i => (i.zero, i.size, i.bytes)) = some (some (.agg #[.int .i64 0, .int .i64 0]), 2, 16) := by kernel_rfl
theorem sizeDot (W : World) : (sizeOf 67).run Try.prog W = .ok 2 W := by kernel_rfl

theorem wpList_append_dots {ops : Array Oper} {rest : List Oper} {o : Oper} {a : Act} {Q : Exit → Act → World → Prop} {w : World} (hgd : o.guard = none) (s x : Operand)
    (ho : o.op = .call { callee := .builtin .append, args := #[s, x], argTypes := #[27, 27] }) (base : Nat) (v : Value) (xs : List Dot) (n : Nat) (hs : a.eval s = v)
    (hown : w.ownsRow base 67 2 v n (dvs xs)) (u : Value) (k : List Dot) (m : Nat) (hx : a.eval x = u) (hu : Row w u m 2 (dvs k)) (hlen : n + m ≤ 1000000) (hbase : base ≤ w.heap.size)
    (h : ∀ v' w', w'.ownsRow base 67 2 v' (n + m) (dvs (xs ++ k)) → w.grownBy w' v.ownBlock → wpList Try.prog ops Q rest (a.put o.dst v') w') : wpList Try.prog ops Q (o :: rest) a w := by
  obtain ⟨i0, hi, hz0, hz1, hz2⟩ := info_parts infoDot
  exact wpList_append_rows hgd s x _ ho base 67 i0 (.agg #[.int .i64 0, .int .i64 0]) 2 16 Try.underlying27 hi hz0 hz1 hz2 rfl (by decide) (by decide) v n (dvs xs) hs hown u m (dvs k) hx hu (dvs_one k) hlen hbase (fun v' w' q1 q2 => h v' w' (by rw [dvs_append]; exact q1) q2)

theorem dots_lit (w : World) (x y : Int) : Row (w.alloc (.cells #[.int .i64 x, .int .i64 y] 67)) (.slice (some ⟨w.heap.size, 0, none⟩) 1 1) 1 2 (dvs [(x, y)]) := by
  refine ⟨rfl, _, _, rfl, Nat.le_refl _, by unfold maxLen; omega, .inr ⟨_, _, rfl, by simp, fun i hi => ?_⟩⟩
  rw [Nat.zero_add, World.cell?_alloc_new]
  simp [dvs, dcells]
theorem own_plain_d {w : World} {base n : Nat} {v : Value} {xs : List Value} {e s : Nat} (h : w.ownsRow base e s v n xs) : ∃ p c, v = .slice p n c ∧ (p = none ∨ ∃ g o, p = some ⟨g, o, none⟩) := by
  obtain ⟨_, ⟨rfl, rfl⟩ | ⟨g, cap, cur, rfl, _⟩⟩ := h
  · exact ⟨_, _, rfl, .inl rfl⟩
  · exact ⟨_, _, rfl, .inr ⟨_, _, rfl⟩⟩
theorem own_shape_d {w : World} {base n : Nat} {v : Value} {xs : List Value} {e s : Nat} (h : w.ownsRow base e s v n xs) : ∃ a c, v = .slice a n c := (Row.of_own h).shape

/-- Where a name is put in a row, looking from place k down. -/
def dpos (out : List Dot) (d : Dot) : Nat → Nat
  | 0 => 0
  | k + 1 => if dlt d (out.getD k (0, 0)) then dpos out d k else k + 1
def dins (out : List Dot) (d : Dot) : List Dot := if d ∈ out then out else out.take (dpos out d out.length) ++ [d] ++ out.drop (dpos out d out.length)
def dsort (l : List Dot) : List Dot := l.foldl dins []
theorem dpos_le (out : List Dot) (d : Dot) : ∀ k, dpos out d k ≤ k
  | 0 => Nat.le_refl _
  | k + 1 => by unfold dpos; split; exact Nat.le_trans (dpos_le out d k) (Nat.le_succ k); exact Nat.le_refl _
theorem dsort_take (l : List Dot) (k : Nat) (h : k < l.length) : dsort (l.take (k + 1)) = dins (dsort (l.take k)) (l.getD k (0, 0)) := by
  rw [take_succ_d l k h]; simp [dsort]
theorem dins_len (out : List Dot) (d : Dot) : (dins out d).length ≤ out.length + 1 := by
  unfold dins; split
  · omega
  · have := dpos_le out d out.length; simp; omega
theorem dsort_len_take (l : List Dot) : ∀ k, k ≤ l.length → (dsort (l.take k)).length ≤ k
  | 0, _ => by simp [dsort]
  | k + 1, h => by
    rw [dsort_take l k (by omega)]
    have := dins_len (dsort (l.take k)) (l.getD k (0, 0))
    have := dsort_len_take l k (by omega)
    omega

set_option maxHeartbeats 1000000 in
theorem rof_any (v : Value) (l : List Dot) (node : Int) (w : World) (hr : Dots w v l) (hl : l.length ≤ 100000) :
    Calls Try.prog 88 #[v, .int .i64 node] w fun r w' => ∃ v', r = .returned v' ∧ Dots w' v' (l.filter fun d => d.1 == node) ∧ Pure w w' := by
  obtain ⟨a, cap, rfl⟩ := hr.shape
  have Hr := hid hr
  clear hr
  go_enter Try.func88, Try.ntmps88
  go_wp2
  go_loopw [5, 6] (fun v i wr => ∃ k : Nat, k ≤ l.length ∧ i = .int .i64 k ∧ wr.ownsRow w.heap.size 67 2 v ((l.take k).filter fun d => d.1 == node).length (dvs ((l.take k).filter fun d => d.1 == node)) ∧ Pure w wr) (fun _ i _ => l.length - (RowKit.intOf i).toNat)
  case atStart => exact ⟨0, Nat.zero_le _, rfl, World.ownsRow_nil _ _ _ _, Below.refl _ _⟩
  case round =>
    obtain ⟨k, hk, rfl, hown, hp⟩ := hrel
    by_cases hlt : k < l.length
    · obtain ⟨b, off, rfl, hb, c0, c1⟩ := Dots.get (show Dots wr (.slice a l.length cap) l from Row.pure Hr.out hp) hlt
      have hlt' : (k : Int) < (l.length : Int) := by omega
      have Hstep : Hid ((l.take (k + 1)).filter (fun d => d.1 == node) = (l.take k).filter (fun d => d.1 == node) ++ if (l.getD k (0, 0)).1 == node then [l.getD k (0, 0)] else []) := by
        show _ = _
        rw [take_succ_d l k hlt, List.filter_append]; simp [List.filter_cons]
      have hfl : ((l.take k).filter fun d => d.1 == node).length ≤ 100000 := Nat.le_trans (List.length_filter_le _ _) (by rw [List.length_take]; omega)
      generalize (l.take k).filter (fun d => d.1 == node) = Y at *
      obtain ⟨a3, c3, rfl⟩ := own_shape_d hown
      have Hown := hid hown
      have Hp := hid hp
      clear hown hp
      generalize l.getD k (0, 0) = z at *
      obtain ⟨z1, z2⟩ := z
      dsimp only at c0 c1
      by_cases he : z1 = node
      · subst he
        have b1 : w.heap.size ≤ (wr.alloc (.cells #[.int .i64 z1, .int .i64 z2] 67)).heap.size := by have := Hp.out.size; simp; omega
        go_wp2_with (at_builtin; refine wpList_append_dots rfl _ _ rfl w.heap.size _ Y Y.length rfl (Hown.out.alloc _) _ [(z1, z2)] 1 rfl (dots_lit wr z1 z2) (by omega) b1 ?_)
        intro v2 w2 hown2 hg2
        have Hown2 := hid hown2
        have Hg2 := hid ((Hp.out.alloc Hp.out.size _).grown hg2 (by have := Hp.out.size; simp; omega) (fun k hk => (Hown.out.lt k hk).1))
        clear hown2 hg2
        go_wp2
        go_roundw
        case rel => exact ⟨k + 1, by omega, by go_num, by rw [Hstep.out]; simpa using Hown2.out, Hg2.out⟩
        case measure => simp [RowKit.intOf]; omega
      · have he' : (z1 == node) = false := by simp [he]
        go_wp2
        go_roundw
        case rel => exact ⟨k + 1, by omega, by go_num, by rw [Hstep.out]; simp only [he', Bool.false_eq_true, if_false, List.append_nil]; exact Hown.out, Hp.out⟩
        case measure => simp [RowKit.intOf]; omega
    · have hlt' : ¬ (k : Int) < (l.length : Int) := by omega
      have e : l.take k = l := List.take_of_length_le (by omega)
      rw [e] at hown
      obtain ⟨a3, c3, rfl⟩ := own_shape_d hown
      have Hown := hid hown
      have Hp := hid hp
      clear hp hown e
      go_wp2
      go_ret
      exact ⟨_, rfl, Row.of_own Hown.out, Hp.out⟩
end Go.Proofs.Ytofengnbedebpaa
