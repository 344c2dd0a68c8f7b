/- ref04: Nodes. -/
import Derived.Test.YtofengnbedebpaaCtx2
namespace Go.Proofs.Ytofengnbedebpaa
open Go.RowKit Go.Maps

theorem infoInt' : (Try.prog.info? 3).map (fun i => (i.zero, i.size, i.bytes)) = some (some (.int .i64 0), 1, 8) := by kernel_rfl
theorem wpList_append_ints1 {ops : Array Oper} {rest : List Oper} {o : Oper} {a : Act} {Q : Exit → Act → World → Prop} {w : World} (hgd : o.guard = none) (s x : Operand)
    (ho : o.op = .call { callee := .builtin .append, args := #[s, x], argTypes := #[23, 23] }) (base : Nat) (v : Value) (xs : List Int) (n : Nat) (hs : a.eval s = v)
    (hown : w.ownsRow base 3 1 v n (xs.map (Value.int .i64))) (u : Value) (k : List Int) (m : Nat) (hx : a.eval x = u) (hu : Row w u m 1 (k.map (Value.int .i64))) (hlen : n + m ≤ 1000000) (hbase : base ≤ w.heap.size)
    (h : ∀ v' w', w'.ownsRow base 3 1 v' (n + m) ((xs ++ k).map (Value.int .i64)) → w.grownBy w' v.ownBlock → wpList Try.prog ops Q rest (a.put o.dst v') w') : wpList Try.prog ops Q (o :: rest) a w := by
  obtain ⟨i0, hi, hz0, hz1, hz2⟩ := info_parts infoInt'
  exact wpList_append_rows hgd s x _ ho base 3 i0 (.int .i64 0) 1 8 Try.underlying23 hi hz0 hz1 hz2 rfl (by decide) (by decide) v n _ hs hown u m _ hx hu (fun u hu => by simp at hu; obtain ⟨_, _, rfl⟩ := hu; rfl) hlen hbase (fun v' w' q1 q2 => h v' w' (by rw [List.map_append]; exact q1) q2)
theorem ints_lit1 (w : World) (x : Int) : Row (w.alloc (.cells #[.int .i64 x] 3)) (.slice (some ⟨w.heap.size, 0, none⟩) 1 1) 1 1 ([x].map (Value.int .i64)) := by
  refine ⟨rfl, _, _, rfl, Nat.le_refl _, by unfold maxLen; omega, .inr ⟨_, _, rfl, by simp, fun i hi => ?_⟩⟩
  rw [Nat.zero_add, World.cell?_alloc_new]
  simp

def node0 (d : Dot) : Dot := (d.1, 0)
def cnodes (B C : List Dot) : List Int := (dsort (B.map node0 ++ C.map node0)).map (·.1)

set_option maxHeartbeats 4000000 in
theorem rnodes_any (vb vc : Value) (B C : List Dot) (w : World) (hB : Dots w vb B) (hC : Dots w vc C) (hl : B.length + C.length ≤ 100000) :
    Calls Try.prog 74 #[.agg #[vb, vc]] w fun r w' => ∃ v', r = .returned v' ∧ Ints w' v' (cnodes B C) ∧ Pure w w' ∧ ∀ k, v'.rb = some k → w.heap.size ≤ k := by
  obtain ⟨a, cap, rfl⟩ := hB.shape
  obtain ⟨a', cap', rfl⟩ := hC.shape
  obtain ⟨wz, hwz⟩ : ∃ wz, wz = w.alloc (.cells #[.slice a B.length cap, .slice a' C.length cap'] 29) := ⟨_, rfl⟩
  have Hwz := hid (show Pure w wz from by rw [hwz]; exact (Below.refl _ _).alloc (Nat.le_refl _) _)
  have HB := hid (show Dots wz (.slice a B.length cap) B from Row.pure hB Hwz.out)
  have HC := hid (show Dots wz (.slice a' C.length cap') C from Row.pure hC Hwz.out)
  have hbx : wz.heap[w.heap.size]? = some (.cells #[.slice a B.length cap, .slice a' C.length cap'] 29 (0, 0)) := by rw [hwz]; exact block_alloc_new _ _
  have Hbox : Hid (∀ W, Pure wz W → W.cell? ⟨w.heap.size, 0, none⟩ = some (.slice a B.length cap) ∧ W.cell? ⟨w.heap.size, 1, none⟩ = some (.slice a' C.length cap')) := fun W hW => by
    have h := (hW.block _ (lt_of_block hbx)).trans hbx
    exact ⟨cell_of_block h 0, cell_of_block h 1⟩
  clear hB hC hbx
  go_enter Try.func74, Try.ntmps74
  go_wp2
  rw [← hwz]
  clear hwz
  go_loopw [3, 4] (fun v i wr => ∃ k : Nat, k ≤ B.length ∧ i = .int .i64 k ∧ wr.ownsRow wz.heap.size 67 2 v ((B.take k).map node0).length (dvs ((B.take k).map node0)) ∧ Pure wz wr) (fun _ i _ => B.length - (RowKit.intOf i).toNat)
  case atStart => exact ⟨0, Nat.zero_le _, rfl, World.ownsRow_nil _ _ _ _, Below.refl _ _⟩
  case round =>
    obtain ⟨k, hk, rfl, hown, hp⟩ := hrel
    obtain ⟨q0, q1⟩ := Hbox.out wr hp
    by_cases hlt : k < B.length
    · obtain ⟨b, off, rfl, hb, c0, c1'⟩ := Dots.get (show Dots wr (.slice a B.length cap) B from Row.pure HB.out hp) hlt
      have hlt' : (k : Int) < (B.length : Int) := by omega
      have Hstep : Hid (((B.take (k + 1)).map node0) = ((B.take k).map node0) ++ [((B.getD k (0, 0)).1, 0)]) := by
        show _ = _
        rw [take_succ_d B k hlt]; simp [node0]
      have hfl : ((B.take k).map node0).length ≤ 200000 := by simp; omega
      generalize ((B.take k).map node0) = Y at *
      obtain ⟨a3, c3, rfl⟩ := own_shape_d hown
      have Hown := hid hown
      have Hp := hid hp
      clear hown hp
      generalize B.getD k (0, 0) = z at *
      obtain ⟨z1, z2⟩ := z
      dsimp only at c0 c1'
      have b4 : wz.heap.size ≤ (wr.alloc (.cells #[.int .i64 z1, .int .i64 0] 67)).heap.size := by have := Hp.out.size; simp; omega
      go_wp2_with (at_builtin; refine wpList_append_dots rfl _ _ rfl wz.heap.size _ Y Y.length rfl (Hown.out.alloc _) _ [(z1, 0)] 1 rfl (dots_lit wr z1 0) (by omega) b4 ?_)
      intro v3 w3 hown3 hg3
      have Hown3 := hid hown3
      have hpn := hid ((Hp.out.alloc Hp.out.size _).grown hg3 (by have := Hp.out.size; simp; omega) (fun k hk => (Hown.out.lt k hk).1))
      clear hown3 hg3
      go_wp2
      go_roundw
      case rel => exact ⟨k + 1, by omega, by go_num, by rw [Hstep.out]; simpa using Hown3.out, hpn.out⟩
      case measure => simp [RowKit.intOf]; omega
    · have hlt' : ¬ (k : Int) < (B.length : Int) := by omega
      rw [List.take_of_length_le (by omega)] at hown
      obtain ⟨wo, rfl⟩ : ∃ wo : World, wo = wr := ⟨_, rfl⟩
      have Hown1 := hid hown
      have Hpa := hid hp
      obtain ⟨a5, c5, rfl⟩ := own_shape_d hown
      clear hown hp
      go_wp2
      go_loopw [3, 5] (fun v i wr => ∃ k : Nat, k ≤ C.length ∧ i = .int .i64 k ∧ wr.ownsRow wz.heap.size 67 2 v (B.map node0 ++ (C.take k).map node0).length (dvs (B.map node0 ++ (C.take k).map node0)) ∧ Pure wz wr) (fun _ i _ => C.length - (RowKit.intOf i).toNat)
      case atStart => exact ⟨0, Nat.zero_le _, rfl, by simpa using Hown1.out, Hpa.out⟩
      case round =>
        obtain ⟨k, hk, rfl, hown, hp⟩ := hrel
        obtain ⟨q0, q1⟩ := Hbox.out wr hp
        by_cases hlt : k < C.length
        · obtain ⟨b, off, rfl, hb, c0, c1'⟩ := Dots.get (show Dots wr (.slice a' C.length cap') C from Row.pure HC.out hp) hlt
          have hlt' : (k : Int) < (C.length : Int) := by omega
          have Hstep : Hid ((B.map node0 ++ (C.take (k + 1)).map node0) = (B.map node0 ++ (C.take k).map node0) ++ [((C.getD k (0, 0)).1, 0)]) := by
            show _ = _
            rw [take_succ_d C k hlt]; simp [node0]
          have hfl : (B.map node0 ++ (C.take k).map node0).length ≤ 200000 := by simp; omega
          generalize (B.map node0 ++ (C.take k).map node0) = Y at *
          obtain ⟨a3, c3, rfl⟩ := own_shape_d hown
          have Hown := hid hown
          have Hp := hid hp
          clear hown hp
          generalize C.getD k (0, 0) = z at *
          obtain ⟨z1, z2⟩ := z
          dsimp only at c0 c1'
          have b4 : wz.heap.size ≤ (wr.alloc (.cells #[.int .i64 z1, .int .i64 0] 67)).heap.size := by have := Hp.out.size; simp; omega
          go_wp2_with (at_builtin; refine wpList_append_dots rfl _ _ rfl wz.heap.size _ Y Y.length rfl (Hown.out.alloc _) _ [(z1, 0)] 1 rfl (dots_lit wr z1 0) (by omega) b4 ?_)
          intro v3 w3 hown3 hg3
          have Hown3 := hid hown3
          have hpn := hid ((Hp.out.alloc Hp.out.size _).grown hg3 (by have := Hp.out.size; simp; omega) (fun k hk => (Hown.out.lt k hk).1))
          clear hown3 hg3
          go_wp2
          go_roundw
          case rel => exact ⟨k + 1, by omega, by go_num, by rw [Hstep.out]; simpa using Hown3.out, hpn.out⟩
          case measure => simp [RowKit.intOf]; omega
        · have hlt' : ¬ (k : Int) < (C.length : Int) := by omega
          rw [List.take_of_length_le (by omega)] at hown
          obtain ⟨wo2, rfl⟩ : ∃ wo : World, wo = wr := ⟨_, rfl⟩
          have hs := hid (rsort_any _ _ wo2 (show Dots wo2 _ _ from Row.of_own hown) (by simp; omega))
          have hln : (B.map node0 ++ C.map node0).length ≤ 100000 := by simp; omega
          have hln2 := dsort_len (B.map node0 ++ C.map node0)
          obtain ⟨a6, c6, rfl⟩ := own_shape_d hown
          have Hpb := hid hp
          clear hown hp
          have Hcn := hid (show cnodes B C = (dsort (B.map node0 ++ C.map node0)).map (·.1) from rfl)
          generalize (B.map node0 ++ C.map node0).length = N2 at *
          generalize dsort (B.map node0 ++ C.map node0) = D at *
          go_wp2_with fail
          refine hs.out.mono ?_
          rintro e w4 ⟨v4, rfl, hown4, hp4⟩
          have HD := hid (Row.of_own hown4)
          obtain ⟨a7, c7, rfl⟩ := own_shape_d hown4
          have Hp4 := hid (Hpb.out.then_ hp4)
          clear hown4 hp4 q0 q1
          go_wp2
          go_loopw [6, 7] (fun v i wr => ∃ k : Nat, k ≤ D.length ∧ i = .int .i64 k ∧ wr.ownsRow w4.heap.size 3 1 v ((D.take k).map (·.1)).length (((D.take k).map (·.1)).map (Value.int .i64)) ∧ Pure w4 wr) (fun _ i _ => D.length - (RowKit.intOf i).toNat)
          case atStart => exact ⟨0, Nat.zero_le _, rfl, World.ownsRow_nil _ _ _ _, Below.refl _ _⟩
          case round =>
            obtain ⟨k, hk, rfl, hown, hp⟩ := hrel
            by_cases hlt : k < D.length
            · obtain ⟨b, off, rfl, hb, c0, c1'⟩ := Dots.get (show Dots wr (.slice a7 D.length c7) D from Row.pure HD.out hp) hlt
              have hlt' : (k : Int) < (D.length : Int) := by omega
              have Hstep : Hid ((D.take (k + 1)).map (·.1) = (D.take k).map (·.1) ++ [(D.getD k (0, 0)).1]) := by
                show _ = _
                rw [take_succ_d D k hlt]; simp
              have hfl : ((D.take k).map (·.1)).length ≤ 200000 := by simp; omega
              generalize (D.take k).map (·.1) = Y at *
              obtain ⟨a3, c3, rfl⟩ := own_shape_d hown
              have Hown := hid hown
              have Hp := hid hp
              clear hown hp
              generalize D.getD k (0, 0) = z at *
              obtain ⟨z1, z2⟩ := z
              dsimp only at c0 c1'
              have b4 : w4.heap.size ≤ (wr.alloc (.cells #[.int .i64 z1] 3)).heap.size := by have := Hp.out.size; simp; omega
              go_wp2_with (at_builtin; refine wpList_append_ints1 rfl _ _ rfl w4.heap.size _ Y Y.length rfl (Hown.out.alloc _) _ [z1] 1 rfl (ints_lit1 wr z1) (by omega) b4 ?_)
              intro v3 w3 hown3 hg3
              have Hown3 := hid hown3
              have hpn := hid ((Hp.out.alloc Hp.out.size _).grown hg3 (by have := Hp.out.size; simp; omega) (fun k hk => (Hown.out.lt k hk).1))
              clear hown3 hg3
              go_wp2
              go_roundw
              case rel => exact ⟨k + 1, by omega, by go_num, by rw [Hstep.out]; simpa using Hown3.out, hpn.out⟩
              case measure => simp [RowKit.intOf]; omega
            · have hlt' : ¬ (k : Int) < (D.length : Int) := by omega
              rw [List.take_of_length_le (by omega)] at hown
              obtain ⟨a3, c3, rfl⟩ := own_shape_d hown
              have hrb := hid (fun k hk => (hown.lt k (rb_own hk)).1)
              have HI := hid (show Ints wr (.slice a3 D.length c3) (D.map (·.1)) from by have h := Row.of_own hown; rw [List.length_map] at h; unfold Ints; rw [List.length_map]; exact h)
              have Hp := hid hp
              clear hp hown
              go_wp2
              go_ret
              exact ⟨_, rfl, by rw [Hcn.out]; exact HI.out, Hwz.out.then_ (Hp4.out.then_ Hp.out), fun k hk => by have := Hp4.out.size; have := Hwz.out.size; have := hrb.out k (by simpa using hk); omega⟩
end Go.Proofs.Ytofengnbedebpaa
