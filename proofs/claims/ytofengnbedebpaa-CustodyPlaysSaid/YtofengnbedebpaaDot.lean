/- ref03: Check, Less, Has, Bytes, Row, over rows of names. -/
import Derived.Test.YtofengnbedebpaaStr
import Derived.Deep.RegionHeld3
import Derived.Laws.StructEq
import Derived.Deep.QuietTactic
import Derived.BigQuiet
namespace Go.Proofs.Ytofengnbedebpaa
open Go.RowKit Go.Maps

abbrev Dot := Int × Int
def dcells (d : Dot) : List Value := [.int .i64 d.1, .int .i64 d.2]
def dvs (l : List Dot) : List Value := l.flatMap dcells
def Dots (w : World) (v : Value) (l : List Dot) : Prop := Row w v l.length 2 (dvs l)
def dv (d : Dot) : Value := .agg #[.int .i64 d.1, .int .i64 d.2]

theorem dvs_len (l : List Dot) : (dvs l).length = l.length * 2 := by
  induction l with
  | nil => rfl
  | cons d l ih => simp [dvs, dcells] at *; omega
theorem dvs_append (l k : List Dot) : dvs (l ++ k) = dvs l ++ dvs k := by simp [dvs]
theorem dvs_get : ∀ (l : List Dot) (k : Nat), k < l.length → (dvs l)[k * 2]? = some (.int .i64 (l.getD k (0, 0)).1) ∧ (dvs l)[k * 2 + 1]? = some (.int .i64 (l.getD k (0, 0)).2)
  | [], k, h => absurd h (Nat.not_lt_zero _)
  | d :: l, 0, _ => ⟨rfl, rfl⟩
  | d :: l, k + 1, h => by
    have ih := dvs_get l k (by simpa using h)
    have e1 : (dvs (d :: l))[(k + 1) * 2]? = (dvs l)[k * 2]? := by
      have : dvs (d :: l) = .int .i64 d.1 :: .int .i64 d.2 :: dvs l := rfl
      rw [this, show (k + 1) * 2 = k * 2 + 1 + 1 by omega]; simp
    have e2 : (dvs (d :: l))[(k + 1) * 2 + 1]? = (dvs l)[k * 2 + 1]? := by
      have : dvs (d :: l) = .int .i64 d.1 :: .int .i64 d.2 :: dvs l := rfl
      rw [this, show (k + 1) * 2 + 1 = k * 2 + 1 + 1 + 1 by omega]; simp
    rw [e1, e2]; simpa [List.getD] using ih
theorem dvs_one (l : List Dot) : ∀ u ∈ dvs l, u.oneCell' = true := by
  intro u hu
  simp only [dvs, List.mem_flatMap, dcells] at hu
  obtain ⟨d, _, hd⟩ := hu
  simp at hd
  rcases hd with rfl | rfl <;> rfl
theorem Dots.shape {w : World} {v : Value} {l : List Dot} (h : Dots w v l) : ∃ a cap, v = .slice a l.length cap := Row.shape h
theorem Dots.get {w : World} {a : Option Addr} {n cap : Nat} {l : List Dot} (h : Dots w (.slice a n cap) l) {k : Nat} (hk : k < l.length) :
    ∃ b off, a = some ⟨b, off, none⟩ ∧ b < w.heap.size ∧ w.cell? ⟨b, off + k * 2, none⟩ = some (.int .i64 (l.getD k (0, 0)).1) ∧ w.cell? ⟨b, off + k * 2 + 1, none⟩ = some (.int .i64 (l.getD k (0, 0)).2) := by
  have e : n = l.length := by obtain ⟨a', c', e⟩ := h.shape; injection e
  subst e
  obtain ⟨b, off, e, hb, hc⟩ := Row.elem h hk
  obtain ⟨g1, g2⟩ := dvs_get l k hk
  exact ⟨b, off, e, hb, (hc 0 (by omega)).trans g1, (hc 1 (by omega)).trans g2⟩

def dchk (d : Dot) : Bool := decide (1 ≤ d.1) && decide (d.1 ≤ 1099511627776) && decide (1 ≤ d.2) && decide (d.2 ≤ 1099511627776)
def dlt (a b : Dot) : Bool := decide (a.1 < b.1) || (decide (a.1 = b.1) && decide (a.2 < b.2))

set_option maxHeartbeats 400000 in
theorem rchk_any (d : Dot) (w : World) :
    Calls Try.prog 60 #[dv d] w fun e w' => e = .returned (.bool (dchk d)) ∧ Pure w w' := by
  obtain ⟨x, y⟩ := d
  have hp := hid (show ∀ o, Pure w (w.alloc o) from fun o => (Below.refl _ _).alloc (Nat.le_refl _) o)
  unfold dv dchk
  dsimp only
  by_cases h1 : 1 ≤ x
  · by_cases h2 : x ≤ 1099511627776
    · by_cases h3 : 1 ≤ y
      · go_enter Try.func60, Try.ntmps60
        go_wp2
        go_ret
        exact ⟨ret_bool (by simp [h1, h2, h3]), hp.out _⟩
      · go_enter Try.func60, Try.ntmps60
        go_wp2
        go_ret
        exact ⟨ret_bool (by simp; omega), hp.out _⟩
    · go_enter Try.func60, Try.ntmps60
      go_wp2
      go_ret
      exact ⟨ret_bool (by simp; omega), hp.out _⟩
  · go_enter Try.func60, Try.ntmps60
    go_wp2
    go_ret
    exact ⟨ret_bool (by simp; omega), hp.out _⟩

set_option maxHeartbeats 400000 in
theorem rless_any (d e : Dot) (w : World) :
    Calls Try.prog 73 #[dv d, dv e] w fun r w' => r = .returned (.bool (dlt d e)) ∧ Pure w w' := by
  obtain ⟨x, y⟩ := d
  obtain ⟨u, v⟩ := e
  have hp := hid (show ∀ o o', Pure w ((w.alloc o).alloc o') from fun o o' => ((Below.refl _ _).alloc (Nat.le_refl _) o).alloc (by simp) o')
  unfold dv dlt
  dsimp only
  by_cases h1 : x < u
  · go_enter Try.func73, Try.ntmps73
    go_wp2
    go_ret
    exact ⟨ret_bool (by simp [h1]), hp.out _ _⟩
  · by_cases h2 : x = u
    · subst h2
      go_enter Try.func73, Try.ntmps73
      go_wp2
      go_ret
      exact ⟨ret_bool (by simp), hp.out _ _⟩
    · have h2' : (x == u) = false := by simp [h2]
      go_enter Try.func73, Try.ntmps73
      go_wp2
      go_ret
      exact ⟨ret_bool (by simp [h1]), hp.out _ _⟩

theorem dot_eqIn (W : World) (u v x y : Int) : (Op.equalIn 10000 67 (.agg #[.int .i64 u, .int .i64 v]) (.agg #[.int .i64 x, .int .i64 y])).run Try.prog W = .ok (decide (u = x) && decide (v = y)) W := by
  have hu := Try.underlying67
  have hi := Try.underlying3
  have hc : Try.prog.cellsOf 3 = 1 := by kernel_rfl
  have hf : Try.prog.underlying 67 = some (.struct (Try.prog.fieldsOf 67)) := by simp only [Program.fieldsOf, hu]
  rw [run_equalIn_struct W 9999 67 _ _ hf (by kernel_rfl)]
  have hfs : (Try.prog.fieldsOf 67).toList = [{ name := "Node", type := 3, offset := 0, embedded := false, tag := "", pkgPath := "", byteOffset := 0 }, { name := "N", type := 3, offset := 1, embedded := false, tag := "", pkgPath := "", byteOffset := 8 }] := by simp only [Program.fieldsOf, hu]
  rw [hfs]
  clear hu hf hfs
  by_cases h1 : u = x <;> by_cases h2 : v = y <;> simp [Op.eqFields, go_sem, h1, h2]

theorem take_succ_d (l : List Dot) (k : Nat) (h : k < l.length) : l.take (k + 1) = l.take k ++ [l.getD k (0, 0)] := by
  rw [List.take_succ_eq_append_getElem h]; simp [List.getD, h]
theorem notin_take_d {l : List Dot} {k : Nat} {x : Dot} (h : k < l.length) (hn : x ∉ l.take k) (hx : ¬ x = l.getD k (0, 0)) : x ∉ l.take (k + 1) := by
  rw [take_succ_d l k h]; simp only [List.mem_append, List.mem_singleton]; exact fun h => h.elim hn hx
theorem mem_get_d {l : List Dot} {k : Nat} (h : k < l.length) : l.getD k (0, 0) ∈ l := by simp [List.getD, h]

set_option maxHeartbeats 1000000 in
theorem rdhas_any (v : Value) (l : List Dot) (d : Dot) (w : World) (hr : Dots w v l) :
    Calls Try.prog 61 #[v, dv d] w fun r w' => r = .returned (.bool (decide (d ∈ l))) ∧ Pure w w' := by
  obtain ⟨a, cap, rfl⟩ := hr.shape
  have hll : l.length ≤ maxLen := Row.len_le hr
  unfold maxLen at hll
  have Hr := hid hr
  have hp := hid (show ∀ o, Pure w (w.alloc o) from fun o => (Below.refl _ _).alloc (Nat.le_refl _) o)
  have heq := dot_eqIn
  obtain ⟨x, y⟩ := d
  unfold dv
  clear hr
  go_enter Try.func61, Try.ntmps61
  go_wp2
  go_loopw [5] (fun i wr => ∃ k n : Nat, k ≤ l.length ∧ i = .int .i64 k ∧ (x, y) ∉ l.take k ∧ wr = (w.alloc (.cells #[.int .i64 x, .int .i64 y] 67)).drewN n) (fun i _ => l.length - (RowKit.intOf i).toNat)
  case atStart => exact ⟨0, 0, Nat.zero_le _, rfl, by simp, rfl⟩
  case round =>
    obtain ⟨k, n, hk, rfl, hno, rfl⟩ := hrel
    by_cases hlt : k < l.length
    · obtain ⟨b, off, rfl, hb, c0, c1⟩ := Dots.get (show Dots (w.alloc (.cells #[.int .i64 x, .int .i64 y] 67)) (.slice a l.length cap) l from Row.pure Hr.out (hp.out _)) hlt
      have hlt' : (k : Int) < (l.length : Int) := by omega
      have Hn := hid (notin_take_d hlt hno)
      have Hm := hid (mem_get_d hlt)
      clear hno
      generalize l.getD k (0, 0) = z at *
      obtain ⟨z1, z2⟩ := z
      dsimp only at c0 c1
      by_cases he : z1 = x ∧ z2 = y
      · obtain ⟨rfl, rfl⟩ := he
        have Hx := hid (show decide ((z1, z2) ∈ l) = true from decide_eq_true Hm.out)
        go_wp2_with fail
        go_quiet (fail)
        go_wp2
        go_ret
        exact ⟨ret_bool Hx.out.symm, ((hp.out _).then_ (pure_drewN _ n)).then_ (pure_drewN _ _)⟩
      · have e1 : (decide (z1 = x) && decide (z2 = y)) = false := by simpa using he
        have Hn' := hid (Hn.out (fun e => he (by cases e; exact ⟨rfl, rfl⟩)))
        clear he
        go_wp2_with fail
        go_quiet (fail)
        go_wp2
        go_roundw
        case rel => exact ⟨k + 1, _, by omega, by go_num, Hn'.out, rfl⟩
        case measure => simp [RowKit.intOf]; omega
    · have Hx := hid (show decide ((x, y) ∈ l) = false by rw [List.take_of_length_le (by omega)] at hno; simpa using hno)
      have hlt' : ¬ (k : Int) < (l.length : Int) := by omega
      clear hno
      go_wp2
      go_ret
      exact ⟨ret_bool Hx.out.symm, (hp.out _).then_ (pure_drewN _ _)⟩
end Go.Proofs.Ytofengnbedebpaa
