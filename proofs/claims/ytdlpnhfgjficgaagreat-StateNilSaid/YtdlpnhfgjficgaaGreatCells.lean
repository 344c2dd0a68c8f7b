/- Rows of elements of several cells: read, appended, cut. -/
import Derived.Test.YtdlpnhfgjficgaaGreatCu
import Derived.Laws.AppendOwnNone
import Derived.Deep.QuietTactic
import Derived.BigQuiet
namespace Go.Proofs.YtdlpnhfgjficgaaGreat
open Go.RowKit Go.Maps

theorem pure_drewN (w : World) (n : Nat) : Pure w (w.drewN n) := ⟨rfl, rfl, rfl, Nat.le_refl _, fun _ _ => rfl⟩

theorem Row.elem {w : World} {a : Option Addr} {n cap size : Nat} {xs : List Value} (h : Row w (.slice a n cap) n size xs) {i : Nat} (hi : i < n) :
    ∃ b off, a = some ⟨b, off, none⟩ ∧ b < w.heap.size ∧ ∀ j, j < size → w.cell? ⟨b, off + i * size + j, none⟩ = xs[i * size + j]? := by
  obtain ⟨_, a', cap', e, h1, _, h0 | ⟨b, off, e', hb, hc⟩⟩ := h
  · cases e; omega
  · cases e
    refine ⟨b, off, e', hb, fun j hj => ?_⟩
    rw [Nat.add_assoc]
    refine hc _ ?_
    calc i * size + j < i * size + size := by omega
      _ = (i + 1) * size := by rw [Nat.succ_mul]
      _ ≤ n * size := Nat.mul_le_mul_right _ hi

theorem wpList_append_rows {P : Program} {ops : Array Oper} {rest : List Oper} {o : Oper} {a : Act} {Q : Exit → Act → World → Prop} {w : World} (hgd : o.guard = none) (s x : Operand) (t : TypeId)
    (ho : o.op = .call { callee := .builtin .append, args := #[s, x], argTypes := #[t, t] }) (base : Nat) (e : TypeId) (i : TypeInfo) (z : Value) (size bytes : Nat) (ht : P.underlying t = some (.slice e)) (hi : P.info? e = some i) (hz : i.zero = some z)
    (hsize : i.size = size) (hby : i.bytes = bytes) (hzs : z.cells.size = size) (hsz : 0 < size) (hb100 : bytes ≤ 100)
    (v : Value) (n : Nat) (xs : List Value) (hs : a.eval s = v) (hown : w.ownsRow base e size v n xs) (u : Value) (m : Nat) (news : List Value) (hx : a.eval x = u) (hu : Row w u m size news) (h1 : ∀ u ∈ news, u.oneCell' = true) (hlen : n + m ≤ 1000000) (hbase : base ≤ w.heap.size)
    (h : ∀ v' w', w'.ownsRow base e size v' (n + m) (xs ++ news) → w.grownBy w' v.ownBlock → wpList P ops Q rest (a.put o.dst v') w') : wpList P ops Q (o :: rest) a w := by
  obtain ⟨hl, ad, cap, rfl, hnc, hcm, hc⟩ := hu
  cases ad with
  | none =>
    have h0 : cap = 0 := by
      rcases hc with h | ⟨_, _, e, _⟩
      · exact h
      · cases e
    have hm0 : m = 0 := by omega
    subst hm0; subst h0
    have hn0 : news = [] := List.eq_nil_of_length_eq_zero (by simpa using hl)
    subst hn0
    exact wpList_append_own_none hgd s x t ho base e i size ht hi v n xs hs hown hx (h v w (by simpa using hown) (World.grownBy.refl _ _))
  | some ad =>
    refine wpList_append_own _ hgd s x t ho base e i z size bytes ht hi hz hsize hby hzs hsz v n xs hs hown ad m cap news hx hl (fun j u hj => ?_) h1 (by unfold maxLen; omega) ?_ hbase (fun v' w' q1 q2 _ => h v' w' q1 q2)
    · have hjl : j < m * size := by rw [← hl]; exact (List.getElem?_eq_some_iff.1 hj).1
      rcases hc with rfl | ⟨b, off, e', _, hcell⟩
      · have : m = 0 := by omega
        subst this; omega
      · cases e'
        rw [Addr.add_lit, hcell j hjl]; exact hj
    · calc (n + m) * bytes ≤ 1000000 * 100 := Nat.mul_le_mul hlen hb100
        _ ≤ 140737488355328 := by decide

theorem row_pre {w : World} {b off n cap size : Nat} {xs : List Value} (h : Row w (.slice (some ⟨b, off, none⟩) n cap) n size xs) {k : Nat} (hk : k ≤ n) : Row w (.slice (some ⟨b, off, none⟩) k cap) k size (xs.take (k * size)) := by
  obtain ⟨hl, a, cap', e, h1, h2, hc⟩ := h
  cases e
  have hks : k * size ≤ n * size := Nat.mul_le_mul_right _ hk
  refine ⟨by simp; omega, _, _, rfl, by omega, h2, ?_⟩
  rcases hc with h0 | ⟨b', off', e', hb, hcell⟩
  · exact .inl h0
  · cases e'
    refine .inr ⟨b, off, rfl, hb, fun i hi => ?_⟩
    rw [hcell i (by omega), List.getElem?_take, if_pos hi]
theorem row_suf {w : World} {b off n cap size : Nat} {xs : List Value} (h : Row w (.slice (some ⟨b, off, none⟩) n cap) n size xs) {k : Nat} (hk : k ≤ n) : Row w (.slice (some ⟨b, off + k * size, none⟩) (n - k) (cap - k)) (n - k) size (xs.drop (k * size)) := by
  obtain ⟨hl, a, cap', e, h1, h2, hc⟩ := h
  cases e
  have hks : k * size ≤ n * size := Nat.mul_le_mul_right _ hk
  refine ⟨by rw [List.length_drop, hl, Nat.sub_mul], _, _, rfl, by omega, by omega, ?_⟩
  rcases hc with h0 | ⟨b', off', e', hb, hcell⟩
  · left; omega
  · cases e'
    refine .inr ⟨b, off + k * size, rfl, hb, fun i hi => ?_⟩
    rw [Nat.sub_mul] at hi
    rw [Nat.add_assoc, hcell (k * size + i) (by omega), List.getElem?_drop]

/-- A row's head and its tail, taken by the slice's own words. -/
theorem slice_pre_row {P : Program} {t e : TypeId} {size : Nat} (ht : P.underlying t = some (.slice e)) {w : World} {a : Option Addr} {n cap : Nat} {xs : List Value} (h : Row w (.slice a n cap) n size xs) {k : Nat} (hk : k ≤ n) (hp : a = none ∨ ∃ b o, a = some ⟨b, o, none⟩) (hsz : ∀ W, (sizeOf e).run P W = .ok size W) :
    ∃ v1, (∀ W, (Instr.slice t (.slice a n cap) none (some (.int .i64 k)) none).run P W = .ok v1 W) ∧ ∀ W, Row W (.slice a n cap) n size xs → Row W v1 k size (xs.take (k * size)) := by
  obtain ⟨hl, a', cap', e', h1, h2, hc⟩ := h
  cases e'
  have hte : P.elem t = e := by simp [Program.elem, ht]
  have ht' : P.underlying t = some (.slice (P.elem t)) := by rw [hte]; exact ht
  refine ⟨.slice a k cap, fun W => ?_, fun W hW => ?_⟩
  · rw [run_slice_h (P := P) (w := W) t a n cap ht' .i64 (k : Int) (by omega) (by omega), hte, hsz]
    rcases hp with rfl | ⟨b, o, rfl⟩
    · simp [sliced, go_sem]
    · by_cases hz : cap = 0
      · simp [sliced, go_sem, hz]
      · simp [sliced, go_sem, Addr.add]
  · rcases hp with rfl | ⟨b, o, rfl⟩
    · rcases hc with rfl | ⟨_, _, e, _⟩
      · obtain rfl : n = 0 := by omega
        obtain rfl : k = 0 := by omega
        exact ⟨by simp, none, 0, rfl, by omega, by simp, .inl rfl⟩
      · cases e
    · exact row_pre hW hk
theorem slice_suf_row {P : Program} {t e : TypeId} {size : Nat} (ht : P.underlying t = some (.slice e)) {w : World} {a : Option Addr} {n cap : Nat} {xs : List Value} (h : Row w (.slice a n cap) n size xs) {k : Nat} (hk : k ≤ n) (hp : a = none ∨ ∃ b o, a = some ⟨b, o, none⟩) (hsz : ∀ W, (sizeOf e).run P W = .ok size W) :
    ∃ v1, (∀ W, (Instr.slice t (.slice a n cap) (some (.int .i64 k)) none none).run P W = .ok v1 W) ∧ ∀ W, Row W (.slice a n cap) n size xs → Row W v1 (n - k) size (xs.drop (k * size)) := by
  have hr := h
  obtain ⟨hl, a', cap', e', h1, h2, hc⟩ := h
  cases e'
  have hte : P.elem t = e := by simp [Program.elem, ht]
  have ht' : P.underlying t = some (.slice (P.elem t)) := by rw [hte]; exact ht
  rcases hp with rfl | ⟨b, o, rfl⟩
  · rcases hc with rfl | ⟨_, _, e, _⟩
    · obtain rfl : n = 0 := by omega
      obtain rfl : k = 0 := by omega
      obtain rfl : xs = [] := List.eq_nil_of_length_eq_zero (by simpa using hl)
      refine ⟨.slice none 0 0, fun W => ?_, fun W _ => ⟨by simp, none, 0, rfl, by omega, by simp, .inl rfl⟩⟩
      refine Eq.trans (run_slice_l (P := P) (w := W) t none 0 0 ht' .i64 (0 : Int) (by omega) (by omega)) ?_
      rw [hte, hsz]
      simp [sliced, go_sem]
    · cases e
  · by_cases hz : cap = k
    · obtain rfl : cap = n := by omega
      subst hz
      refine ⟨.slice (some ⟨b, o, none⟩) 0 0, fun W => ?_, fun W _ => ⟨by simp; omega, some ⟨b, o, none⟩, 0, by simp, by omega, by simp, .inl rfl⟩⟩
      rw [run_slice_l (P := P) (w := W) t (some ⟨b, o, none⟩) cap cap ht' .i64 (cap : Int) (by omega) (by omega), hte, hsz]
      simp [sliced, go_sem]
    · refine ⟨.slice (some ⟨b, o + k * size, none⟩) (n - k) (cap - k), fun W => ?_, fun W hW => row_suf hW hk⟩
      rw [run_slice_l (P := P) (w := W) t (some ⟨b, o, none⟩) n cap ht' .i64 (k : Int) (by omega) (by omega), hte, hsz]
      simp [sliced, go_sem, hz, Addr.add]
end Go.Proofs.YtdlpnhfgjficgaaGreat
