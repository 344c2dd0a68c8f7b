/- custody: Keep of a zero custody. -/
import Derived.Test.YtofengnbedebpaaParts
import Derived.Test.YtofengnbedebpaaApart
namespace Go.Proofs.Ytofengnbedebpaa
open Go.RowKit Go.Maps Go.MapKept

set_option maxRecDepth 8000 in
set_option maxHeartbeats 2000000 in
theorem zkeep_no (c : Nat) (p : Int) (v : Value) (w : World) (h : w.heap[c]? = some (.cells #[.map none, .map none] 61 (0, 0))) (hat : BagAt w v (oneB 0)) (hw : (Lit.int .i64 p).wf = true) :
    Calls Try.prog 12 #[.pointer (some ⟨c, 0, none⟩), .int .i64 p, v] w fun e w' => e = .returned (.bool false) ∧ Pure w w' := by
  have hbytes0 := fun W (hW : Pure w W) => mbbytes_any v (oneB 0) W (hat.pure hW) (oneB_small (by decide))
  have hsame0 := fun W (hW : Pure w W) => mbsame_any v (.agg #[.slice none 0 0, .slice none 0 0, .slice none 0 0]) (oneB 0) g0 W (hat.pure hW) (bag0 W)
  have hE : decide (oneB 0 = g0) = true := by rw [oneB_empty]; rfl
  rw [hE] at hsame0
  clear hE
  obtain ⟨v0, v1, v2, rfl, h0, h1, h2⟩ := hat
  obtain ⟨a0, c0, rfl⟩ := h0.shape
  obtain ⟨a1, c1, rfl⟩ := h1.shape
  obtain ⟨a2, c2, rfl⟩ := h2.shape
  generalize (oneB 0).1.length = n0 at *
  generalize (oneB 0).2.1.length = n1 at *
  generalize (oneB 0).2.2.length = n2 at *
  clear h0 h1 h2
  obtain ⟨wz, hwz⟩ : ∃ wz, wz = w.alloc (.cells #[.slice a0 n0 c0, .slice a1 n1 c1, .slice a2 n2 c2] 31) := ⟨_, rfl⟩
  have Hwz := hid (show Pure w wz from by rw [hwz]; exact (Below.refl _ _).alloc (Nat.le_refl _) _)
  have bx : wz.heap[w.heap.size]? = some (.cells #[.slice a0 n0 c0, .slice a1 n1 c1, .slice a2 n2 c2] 31 (0, 0)) := by rw [hwz]; exact block_alloc_new _ _
  have hbox : Hid (∀ W, Pure wz W → W.cell? ⟨w.heap.size, 0, none⟩ = some (.slice a0 n0 c0) ∧ W.cell? ⟨w.heap.size, 1, none⟩ = some (.slice a1 n1 c1) ∧ W.cell? ⟨w.heap.size, 2, none⟩ = some (.slice a2 n2 c2)) := fun W hW => by
    have e0 := (hW.block _ (lt_of_block bx)).trans bx
    exact ⟨cell_of_block e0 0, cell_of_block e0 1, cell_of_block e0 2⟩
  have hbytes := hid (fun W (hW : Pure wz W) => hbytes0 W (Hwz.out.then_ hW))
  have hsame := hid (fun W (hW : Pure wz W) => hsame0 W (Hwz.out.then_ hW))
  have hl := zlook wz p hw
  have k0 : wz.cell? ⟨c, 0, none⟩ = some (.map none) := cell_of_block ((Hwz.out.block _ (lt_of_block h)).trans h) 0
  obtain ⟨f0, f1, f2⟩ := hbox.out wz (Below.refl _ _)
  have Hz := hid hwz
  rw [hwz] at k0 f0 f1 f2 hl
  clear hwz hbytes0 hsame0 bx h
  go_enter Try.func12, Try.ntmps12
  go_wp2_with fail
  rw [← Hz.out]
  refine (hbytes.out wz (Below.refl _ _)).mono ?_
  rintro e w1 ⟨rfl, hp1⟩
  have Hp1 := hid hp1
  clear k0 f0 f1 f2 hp1 hl
  obtain ⟨f0, f1, f2⟩ := hbox.out w1 Hp1.out
  generalize bs (bagB (oneB 0)) = M at *
  go_wp2_with fail
  refine (hsame.out w1 Hp1.out).mono ?_
  rintro e w2 ⟨rfl, hp2⟩
  have Hp2 := hid (Hwz.out.then_ (Hp1.out.then_ hp2))
  clear f0 f1 f2 hp2
  go_wp2
  go_ret
  exact ⟨rfl, Hp2.out⟩

set_option maxRecDepth 8000 in
set_option maxHeartbeats 4000000 in
theorem zkeep_yes (base c : Nat) (p : Int) (k : Nat) (hk1 : 1 ≤ k) (hk7 : k ≤ 7) (v : Value) (w : World) (h : w.heap[c]? = some (.cells #[.map none, .map none] 61 (0, 0))) (hbc : base ≤ c) (hat : BagAt w v (oneB k)) (hw : (Lit.int .i64 p).wf = true) :
    Calls Try.prog 12 #[.pointer (some ⟨c, 0, none⟩), .int .i64 p, v] w fun e w' => e = .returned (.bool true) ∧ Cu w' base c [(p, mk k, [])] ∧ KC base c w w' := by
  have hbytes0 := fun W (hW : Pure w W) => mbbytes_any v (oneB k) W (hat.pure hW) (oneB_small hk7)
  have hsame0 := fun W (hW : Pure w W) => mbsame_any v (.agg #[.slice none 0 0, .slice none 0 0, .slice none 0 0]) (oneB k) g0 W (hat.pure hW) (bag0 W)
  have hE : decide (oneB k = g0) = false := by rw [oneB_empty]; simp; omega
  rw [hE] at hsame0
  clear hE
  obtain ⟨v0, v1, v2, rfl, h0, h1, h2⟩ := hat
  obtain ⟨a0, c0, rfl⟩ := h0.shape
  obtain ⟨a1, c1, rfl⟩ := h1.shape
  obtain ⟨a2, c2, rfl⟩ := h2.shape
  generalize (oneB k).1.length = n0 at *
  generalize (oneB k).2.1.length = n1 at *
  generalize (oneB k).2.2.length = n2 at *
  clear h0 h1 h2
  obtain ⟨wz, hwz⟩ : ∃ wz, wz = w.alloc (.cells #[.slice a0 n0 c0, .slice a1 n1 c1, .slice a2 n2 c2] 31) := ⟨_, rfl⟩
  have Hwz := hid (show Pure w wz from by rw [hwz]; exact (Below.refl _ _).alloc (Nat.le_refl _) _)
  have bx : wz.heap[w.heap.size]? = some (.cells #[.slice a0 n0 c0, .slice a1 n1 c1, .slice a2 n2 c2] 31 (0, 0)) := by rw [hwz]; exact block_alloc_new _ _
  have hbox : Hid (∀ W, Pure wz W → W.cell? ⟨w.heap.size, 0, none⟩ = some (.slice a0 n0 c0) ∧ W.cell? ⟨w.heap.size, 1, none⟩ = some (.slice a1 n1 c1) ∧ W.cell? ⟨w.heap.size, 2, none⟩ = some (.slice a2 n2 c2)) := fun W hW => by
    have e0 := (hW.block _ (lt_of_block bx)).trans bx
    exact ⟨cell_of_block e0 0, cell_of_block e0 1, cell_of_block e0 2⟩
  have hbytes := hid (fun W (hW : Pure wz W) => hbytes0 W (Hwz.out.then_ hW))
  have hsame := hid (fun W (hW : Pure wz W) => hsame0 W (Hwz.out.then_ hW))
  have hl := zlook wz p hw
  have hz := hid (fun W (hW : Pure w W) => (hW.block _ (lt_of_block h)).trans h)
  have k0 : wz.cell? ⟨c, 0, none⟩ = some (.map none) := cell_of_block (hz.out wz Hwz.out) 0
  obtain ⟨f0, f1, f2⟩ := hbox.out wz (Below.refl _ _)
  have Hz := hid hwz
  have hcw := lt_of_block h
  have hmm := @run_makeMap Try.prog
  rw [hwz] at k0 f0 f1 f2 hl
  clear hwz hbytes0 hsame0 bx h
  go_enter Try.func12, Try.ntmps12
  go_wp2_with fail
  rw [← Hz.out]
  refine (hbytes.out wz (Below.refl _ _)).mono ?_
  rintro e w1 ⟨rfl, hp1⟩
  have Hp1 := hid hp1
  clear k0 f0 f1 f2 hp1 hl
  obtain ⟨f0, f1, f2⟩ := hbox.out w1 Hp1.out
  have hmk : bagB (oneB k) = mk k := rfl
  rw [hmk]
  clear hmk
  generalize hM : mk k = m at *
  have HM := hid hM
  clear hM
  go_wp2_with fail
  refine (hsame.out w1 Hp1.out).mono ?_
  rintro e w2 ⟨rfl, hp2⟩
  have Hp2 := hid (Hwz.out.then_ (Hp1.out.then_ hp2))
  clear f0 f1 f2 hp2
  have k0 : w2.cell? ⟨c, 0, none⟩ = some (.map none) := cell_of_block (hz.out w2 Hp2.out) 0
  have hn2 := run_eql_map_nil (P := Try.prog) w2 58 3 9 none Try.underlying58
  simp only [Option.isNone_none] at hn2
  go_wp2_with fail
  refine (cunew_any w2).mono ?_
  rintro e w3 ⟨rfl, ⟨mb, hb, bl, H3⟩, hp3⟩
  have hbz := hz.out w3 (Hp2.out.then_ hp3)
  have c3 : w3.cell? ⟨w2.heap.size + 2, 0, none⟩ = some (.map (some mb)) := cell_of_block H3.blk 0
  have c4 : w3.cell? ⟨w2.heap.size + 2, 1, none⟩ = some (.map (some hb)) := cell_of_block H3.blk 1
  have z0 : w3.cell? ⟨c, 0, none⟩ = some (.map none) := cell_of_block hbz 0
  have z1 : w3.cell? ⟨c, 1, none⟩ = some (.map none) := cell_of_block hbz 1
  have y0 : w3.frozen? ⟨c, 0, none⟩ = false := free_of_block hbz 0
  have y1 : w3.frozen? ⟨c, 1, none⟩ = false := free_of_block hbz 1
  have hcs : c < w2.heap.size := by have := Hp2.out.size; omega
  obtain ⟨w4, hw4⟩ : ∃ w4, w4 = (w3.setCell ⟨c, 0, none⟩ (.map (some mb))).setCell ⟨c, 1, none⟩ (.map (some hb)) := ⟨_, rfl⟩
  have hk4 : Kept (fun k => k = c) w3 w4 := by rw [hw4]; exact Kept.setCell (S := fun k => k = c) (Kept.setCell (S := fun k => k = c) (Kept.refl _ w3) (p := ⟨c, 0, none⟩) (fun _ => rfl) _) (p := ⟨c, 1, none⟩) (fun _ => rfl) _
  have hb4 : w4.heap[c]? = some (.cells #[.map (some mb), .map (some hb)] 61 (0, 0)) := by
    rw [hw4]
    have := block_setCell (block_setCell hbz 0 (.map (some mb))) 1 (.map (some hb))
    simpa using this
  have Hkc4 := hid (show KC base c w w4 from by rw [hw4]; exact (((KC.pure (base := base) (c := c) (Hp2.out.then_ hp3)).setC hbc 0 _).setC hbc 1 _))
  have H4 := hid (show CuAt w4 base c [] mb hb bl from ⟨hb4, H3.marks.kept hk4 (fun e => by have := H3.ge.2.1; omega), H3.heard.kept hk4 (fun e => by have := H3.ge.2.2.1; omega), by simp, by simp, H3.ne, by simp, by simp, hbc, by have := H3.ge.2.1; omega, by have := H3.ge.2.2.1; omega, by simp⟩)
  have k4 : w4.cell? ⟨c, 0, none⟩ = some (.map (some mb)) := cell_of_block hb4 0
  have Hw4 := hid hw4
  rw [hw4] at k4
  clear hk4 hb4 hbz H3 hp3 hn2 k0 hw4
  have hmk4 := hid (fun W (e : W = w4) => (show IMap strV W mb (([] : CuS).map cmk) by rw [e]; exact H4.out.marks))
  go_wp2_with (at_mapUpdate; refine wpList_put strV _ rfl _ _ _ 58 rfl 3 9 Try.underlying3 Try.underlying58 mb (([] : CuS).map cmk) rfl (hmk4.out _ Hw4.out.symm) p hw m rfl rfl ?_)
  rw [← Hw4.out]
  intro w5 hm5 hg5 hs5
  clear k4 c3 c4 z0 z1 y0 y1
  obtain ⟨cn1, cn2⟩ := H4.out.cne
  have hb5 : w5.heap[c]? = some (.cells #[.map (some mb), .map (some hb)] 61 (0, 0)) := (hg5.block c (lt_of_block H4.out.blk) (fun e => cn1 (by injection e))).trans H4.out.blk
  have k5 : w5.cell? ⟨c, 1, none⟩ = some (.map (some hb)) := cell_of_block hb5 1
  have hh5 : IMap mapV (w5.alloc (.map #[] 0)) hb (([] : CuS).map (cbl bl)) := (H4.out.heard.same (hg5.block hb H4.out.heard.lt (fun e => H4.out.ne (by injection e with e; exact e.symm)))).pure ((Below.refl _ _).alloc (Nat.le_refl _) _)
  have Hm5 := hid hm5
  have Hg5 := hid hg5
  have Hh5 := hid hh5
  clear hm5 hg5 hs5 hb5 hh5 cn1 cn2
  go_wp2_with (at_mapUpdate; refine wpList_put mapV _ rfl _ _ _ 59 rfl 3 72 Try.underlying3 Try.underlying59 hb (([] : CuS).map (cbl bl)) rfl Hh5.out p hw w5.heap.size rfl rfl ?_)
  intro w6 hm6 hg6 hs6
  obtain ⟨H6', hkc6⟩ := H4.out.new (p := p) (fun e he => by simp at he) Hg5.out Hm5.out hg6 hm6
  have he6 : cfind (cset [] p m []) p = some (p, m, []) := by rw [cset_find, if_pos rfl]
  have Hkc6 := hid (Hkc4.out.trans hkc6)
  have H6 := hid H6'
  clear hm6 hg6 hs6 hkc6 H6' k5 hmm
  generalize (fun q => if q = p then w5.heap.size else bl q) = bl6 at *
  have k6 : w6.cell? ⟨c, 1, none⟩ = some (.map (some hb)) := cell_of_block H6.out.blk 1
  have hl6 := H6.out.lookH p hw he6
  obtain ⟨w7, hclr, hcu7, hkc7⟩ := H6.out.clr he6
  rw [cset_cset] at hcu7
  have Hfin := hid (And.intro (show Cu w7 base c [(p, m, [])] from ⟨_, _, _, hcu7⟩) (Hkc6.out.trans hkc7))
  clear he6 hcu7 hkc7
  go_wp2
  go_ret
  exact ⟨rfl, by rw [HM.out]; exact Hfin.out⟩

set_option maxRecDepth 100000 in
set_option maxHeartbeats 8000000 in
theorem nil_walk (p : Int) (w : World) (hw : (Lit.int .i64 p).wf = true) :
    Calls Try.prog 7 #[.int .i64 p] w fun e w' => e = .returned (.bool true) ∧ Pure w w' := by
  obtain ⟨wz, hwz⟩ : ∃ wz, wz = w.alloc (.cells #[.map none, .map none] 61) := ⟨_, rfl⟩
  obtain ⟨c, hc⟩ : ∃ c, c = w.heap.size := ⟨_, rfl⟩
  have Hwz := hid (show Pure w wz from by rw [hwz]; exact (Below.refl _ _).alloc (Nat.le_refl _) _)
  have Hb := hid (show wz.heap[c]? = some (.cells #[.map none, .map none] 61 (0, 0)) from by rw [hwz, hc]; exact block_alloc_new _ _)
  go_enter Try.func7, Try.ntmps7
  go_wp2_with fail
  rw [← hwz, ← hc]
  have Hc := hid hc
  clear hwz hc
  refine (awake_any wz).mono ?_
  rintro e w1 ⟨rfl, hp1⟩
  have Hp1 := hid hp1
  clear hp1
  go_wp2_with fail
  refine (one_to2 (k := 1) 1 w1 aw_n1).mono ?_
  rintro e w2 ⟨p0, s0, p1, s1, p2, s2, rfl, -, hp2⟩
  have Hp2 := hid (Hp1.out.then_ hp2)
  clear hp2
  go_wp2_with fail
  refine (nkeep_any p _ _ _ w2).mono ?_
  rintro e w3 ⟨rfl, hp3⟩
  have Hp3 := hid (Hp2.out.then_ hp3)
  clear hp3
  go_wp2_with fail
  refine (nheard_any p 1 _ w3).mono ?_
  rintro e w3' ⟨rfl, rfl⟩
  go_wp2_with fail
  refine (nsafe_any p _ w3).mono ?_
  rintro e w3' ⟨rfl, rfl⟩
  go_wp2_with fail
  refine (nlack_any p _ _ _ _).mono ?_
  rintro e w4 ⟨rfl, hp4⟩
  have Hp4 := hid (Hp3.out.then_ (((Below.refl _ w3).alloc (Nat.le_refl _) _).trans (hp4.mono (by simp))))
  clear hp4
  go_wp2_with fail
  refine (nparts_any w4).mono ?_
  rintro e w4' ⟨rfl, rfl⟩
  go_wp2_with fail
  refine (nmark_any p w4).mono ?_
  rintro e w4' ⟨rfl, rfl⟩
  go_wp2_with fail
  have hb4 := (Hp4.out.block _ (lt_of_block Hb.out)).trans Hb.out
  refine (zheard_any c p 1 _ w4 hb4 hw).mono ?_
  rintro e w4' ⟨rfl, rfl⟩
  clear hb4
  go_wp2_with fail
  refine (one_to (k := 0) 0 w4 (by decide)).mono ?_
  rintro e w5 ⟨x0, x1, x2, rfl, hat, hp5⟩
  have Hp5 := hid (Hp4.out.then_ hp5)
  have hz5 := hid (zkeep_no c p _ w5 ((Hp5.out.block _ (lt_of_block Hb.out)).trans Hb.out) hat hw)
  clear hat hp5
  go_wp2_with fail
  refine hz5.out.mono ?_
  rintro e w6 ⟨rfl, hp6⟩
  have Hp6 := hid (Hp5.out.then_ hp6)
  clear hp6
  go_wp2_with fail
  refine (one_to (k := 1) 1 w6 aw_n1).mono ?_
  rintro e w7 ⟨y0, y1, y2, rfl, hat, hp7⟩
  have Hp7 := hid (Hp6.out.then_ hp7)
  have hz7 := hid (zkeep_yes c c p 1 (by decide) (by decide) _ w7 ((Hp7.out.block _ (lt_of_block Hb.out)).trans Hb.out) (Nat.le_refl _) hat hw)
  clear hat hp7
  go_wp2_with fail
  refine hz7.out.mono ?_
  rintro e w8 ⟨rfl, hc8, hk8⟩
  have Hp8 := hid ((Hwz.out.then_ Hp7.out).kc hk8 (by rw [Hc.out]; exact Nat.le_refl _))
  have hpt := hid (cuparts_any c c _ w8 hc8 (by simp))
  clear hc8 hk8
  go_wp2_with fail
  refine hpt.out.mono ?_
  rintro e w9 ⟨v9, rfl, hown9, hp9⟩
  obtain ⟨a9, c9, rfl⟩ := own_shape_d hown9
  have e9 : (srt ([((p : Int), mk 1, ([] : List Int))].map (·.1))).length = 1 := by rw [srt_len]; rfl
  rw [e9]
  have Hp9 := hid (Hp8.out.then_ hp9)
  clear hown9 hp9 e9
  go_wp2
  go_ret
  exact ⟨rfl, Hp9.out⟩
end Go.Proofs.Ytofengnbedebpaa
