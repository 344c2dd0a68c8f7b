/- ref09: Members, Same. -/
import Derived.Test.YtlamhobkmknnpaaPeerD
namespace Go.Proofs.Ytlamhobkmknnpaa
open Go.RowKit Go.Maps

set_option maxHeartbeats 1000000 in
theorem rmembers_any (v : Value) (l : List Pr) (w : World) (hr : Peers w v l) (hl : l.length ≤ 100000) :
    Calls Try.prog 14 #[v] w fun e w' => ∃ v', e = .returned v' ∧ w'.ownsRow w.heap.size 3 1 v' (mem l).length ((mem l).map (Value.int .i64)) ∧ Pure w w' := by
  obtain ⟨a, cap, rfl⟩ := hr.shape
  obtain ⟨i0, hi, hz0, hz1, hz2⟩ := info_parts infoInt
  have Hr := hid hr
  clear hr
  go_enter Try.func14, Try.ntmps14
  go_wp2
  go_loopw [3, 4] (fun o i wr => ∃ k : Nat, k ≤ l.length ∧ i = .int .i64 k ∧ wr.ownsRow w.heap.size 3 1 o (mem (l.take k)).length ((mem (l.take k)).map (Value.int .i64)) ∧ Pure w wr) (fun _ i _ => l.length - (RowKit.intOf i).toNat)
  case atStart => exact ⟨0, Nat.zero_le _, rfl, World.ownsRow_nil _ _ _ _, Below.refl _ _⟩
  case round =>
    obtain ⟨k, hk, rfl, hown, hp⟩ := hrel
    by_cases hlt : k < l.length
    · obtain ⟨b, off, rfl, hb, c0, c1, c2⟩ := Peers.get (show Peers wr (.slice a l.length cap) l from Row.pure Hr.out hp) hlt
      have hlt' : (k : Int) < (l.length : Int) := by omega
      have hkk : (0 : Int) ≤ (k : Int) := by omega
      have Hs := hid (show mem (l.take (k + 1)) = mem (l.take k) ++ (if decide ((l.getD k p0).st ≠ 2) then [(l.getD k p0).id] else []) from by
        rw [take_succ_p l k hlt]; unfold mem; rw [List.filter_append, List.map_append]
        generalize l.getD k p0 = z; by_cases h : z.st = 2 <;> simp [h])
      have hml : (mem (l.take k)).length ≤ k := by
        unfold mem
        rw [List.length_map]
        exact Nat.le_trans (List.length_filter_le _ _) (List.length_take_le _ _)
      generalize l.getD k p0 = z at *
      generalize mem (l.take k) = Y at *
      obtain ⟨a3, c3, rfl⟩ := own_shape_p hown
      obtain ⟨zi, zn, zs⟩ := z
      dsimp only at c0 c1 c2 Hs
      have Hp := hid hp
      have Hown := hid hown
      clear hp hown
      by_cases hB : zs = 2
      · have hB' : (zs != 2) = false := by simp [hB]
        have Hsn := hid (show mem (l.take (k + 1)) = Y from by have := Hs.out; simpa [hB] using this)
        clear hB Hs
        go_wp2
        go_roundw
        case rel => exact ⟨k + 1, by omega, by go_num, by rw [Hsn.out]; exact Hown.out, Hp.out⟩
        case measure => simp [RowKit.intOf]; omega
      · have hB' : (zs != 2) = true := by simp [hB]
        have Hsn := hid (show mem (l.take (k + 1)) = Y ++ [zi] from by have := Hs.out; simpa [hB] using this)
        clear hB Hs
        have b4 : w.heap.size ≤ (wr.alloc (.cells #[.int .i64 zi] 3)).heap.size := by have := Hp.out.size; simp; omega
        go_wp2_with (at_builtin; refine wpList_append_rows rfl _ _ 23 rfl w.heap.size 3 i0 (.int .i64 0) 1 8 Try.underlying23 hi hz0 hz1 hz2 rfl (by decide) (by decide) _ Y.length (Y.map (Value.int .i64)) rfl (Hown.out.alloc _) _ 1 [.int .i64 zi] rfl (ints_lit1 wr zi) (by intro u hu; simp at hu; subst hu; rfl) (by omega) b4 ?_)
        intro v3 w3 hown3 hg3
        have Hown3 := hid hown3
        have hpn := hid ((Hp.out.alloc Hp.out.size _).grown hg3 b4 (fun k hk => (Hown.out.lt k hk).1))
        clear hown3 hg3
        go_wp2
        go_roundw
        case rel => exact ⟨k + 1, by omega, by go_num, by rw [Hsn.out]; simpa using Hown3.out, hpn.out⟩
        case measure => simp [RowKit.intOf]; omega
    · have hlt' : ¬ (k : Int) < (l.length : Int) := by omega
      rw [List.take_of_length_le (by omega)] at hown
      have Hown := hid hown
      have Hp := hid hp
      obtain ⟨a3, c3, rfl⟩ := own_shape_p hown
      clear hown hp
      go_wp2
      go_ret
      exact ⟨_, rfl, Hown.out, Hp.out⟩

theorem peer_eqIn (W : World) (a b c x y z : Int) : (Op.equalIn 10000 28 (.agg #[.int .i64 a, .int .i64 b, .int .i64 c]) (.agg #[.int .i64 x, .int .i64 y, .int .i64 z])).run Try.prog W = .ok (decide (a = x) && (decide (b = y) && decide (c = z))) W := by
  have hu := Try.underlying28
  have hi := Try.underlying3
  have hc : Try.prog.cellsOf 3 = 1 := by kernel_rfl
  have hf : Try.prog.underlying 28 = some (.struct (Try.prog.fieldsOf 28)) := by simp only [Program.fieldsOf, hu]
  rw [run_equalIn_struct W 9999 28 _ _ hf (by kernel_rfl)]
  have hfs : (Try.prog.fieldsOf 28).toList = [{ name := "ID", type := 3, offset := 0, embedded := false, tag := "", pkgPath := "", byteOffset := 0 }, { name := "Inc", type := 3, offset := 1, embedded := false, tag := "", pkgPath := "", byteOffset := 8 }, { name := "State", type := 3, offset := 2, embedded := false, tag := "", pkgPath := "", byteOffset := 16 }] := by simp only [Program.fieldsOf, hu]
  rw [hfs]
  clear hu hf hfs
  by_cases h1 : a = x <;> by_cases h2 : b = y <;> by_cases h3 : c = z <;> simp [Op.eqFields, go_sem, h1, h2, h3]

set_option maxHeartbeats 1000000 in
theorem samep_eq (v u : Value) (l : List Pr) (w : World) (hv : Peers w v l) (hu : Peers w u l) :
    Calls Try.prog 15 #[v, u] w fun e w' => e = .returned (.bool true) ∧ Pure w w' := by
  obtain ⟨a, cap, rfl⟩ := hv.shape
  obtain ⟨a2, cap2, rfl⟩ := hu.shape
  have hll : l.length ≤ maxLen := Row.len_le hv
  unfold maxLen at hll
  have Hv := hid hv
  have Hu := hid hu
  have heq := peer_eqIn
  clear hv hu
  go_enter Try.func15, Try.ntmps15
  go_wp2
  go_loopw [5] (fun i wr => ∃ k n : Nat, k ≤ l.length ∧ i = .int .i64 k ∧ wr = w.drewN n) (fun i _ => l.length - (RowKit.intOf i).toNat)
  case atStart => exact ⟨0, 0, Nat.zero_le _, rfl, rfl⟩
  case round =>
    obtain ⟨k, n, hk, rfl, rfl⟩ := hrel
    by_cases hlt : k < l.length
    · obtain ⟨b, off, rfl, hb, c0, c1, c2⟩ := Hv.out.get hlt
      obtain ⟨b2, off2, rfl, hb2, d0, d1, d2⟩ := Hu.out.get hlt
      have hlt' : (k : Int) < (l.length : Int) := by omega
      generalize l.getD k p0 = z at *
      obtain ⟨zi, zn, zs⟩ := z
      dsimp only at c0 c1 c2 d0 d1 d2
      go_wp2_with fail
      go_quiet (fail)
      go_wp2
      go_roundw
      case rel => exact ⟨k + 1, _, by omega, by go_num, rfl⟩
      case measure => simp [RowKit.intOf]; omega
    · have hlt' : ¬ (k : Int) < (l.length : Int) := by omega
      go_wp2
      go_ret
      exact ⟨rfl, pure_drewN _ _⟩
end Go.Proofs.Ytlamhobkmknnpaa
