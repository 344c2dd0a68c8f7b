/- names.Read. A catalogue's bytes, by both. -/
import Derived.Test.YtdlpnhfgjficgaaGreatMTx
import Derived.Test.YtdlpnhfgjficgaaGreatMRg
import Derived.Test.YtdlpnhfgjficgaaGreatMBy
import Derived.Test.YtdlpnhfgjficgaaGreatBagB
namespace Go.Proofs.YtdlpnhfgjficgaaGreat
open Go.RowKit Go.Maps Go.Shelf

theorem rdTag_none : (rdTag none).2 = none := rfl
set_option maxRecDepth 8000 in
set_option maxHeartbeats 4000000 in
theorem tread_any (b : Nat) (s : RS) (w : World) (h : RdAt 117 b s w) :
    Calls Tryz.prog 92 #[.pointer (some ⟨b, 0, none⟩)] w (RdRowG tcells 2 117 b (rdTags s).1 (rdTags s).2 w) := by
  have Hb := hid h.lt
  have hi1 := hid (mintr_any b s 100 w h (by decide) (by decide))
  have hbd := rdInt_bd 100 s
  have hz := rdInt_zero 100 s
  have Hr : Hid (rdTags s = match rdItems rdTag (rdInt 100 s).1.toNat [] (rdInt 100 s).2 with
    | (_, none) => ([], none)
    | (l, some r) => if tchk l then (l, some r) else ([], none)) := (show _ = _ from rfl)
  have hfine := hid (fun s W (hW : RdAt 117 b s W) => fine_any b s W hW)
  have htext := hid (fun s W (hW : RdAt 117 b s W) => mtextr_any b s 100 W hW (by decide) (by decide))
  have hcnt := hid (fun s W (hW : RdAt 117 b s W) => mintr_any b s 1048576 W hW (by decide) (by decide))
  have hneg := hid (fun s W (hW : RdAt 117 b s W) => (show Calls _ _ _ _ _ from by have := mintr_any b s (-1) W hW (by decide) (by decide); rw [rdInt_neg (-1) (by decide)] at this; exact this))
  have hchk := hid (fun v l W (hW : Tags W v l) hl => tchk_any v l W hW hl)
  have Hw := hid (show RdOwn tcells 2 90 117 b (.slice none 0 0) [] s w w from ⟨RdK.start h, World.ownsRow_nil _ _ _ _, h.lt⟩)
  unfold RdP at hi1 htext hcnt hneg
  generalize rdTags s = R at *
  generalize rdInt 100 s = N1 at *
  obtain ⟨x, s1⟩ := N1
  dsimp only at hi1 hbd Hr hz
  obtain ⟨n, rfl⟩ : ∃ n : Nat, x = n := ⟨x.toNat, by omega⟩
  have Hr2 := hid Hr.out
  rw [Int.toNat_natCast] at Hr2
  have Hst := hid (RdIn.start rdTag n s1 (fun e => by have := hz e; omega))
  obtain ⟨total, htot⟩ : ∃ t, t = rdItems rdTag n [] s1 := ⟨_, rfl⟩
  rw [← htot] at Hr2 Hst
  have hbn := hbd.2 (by omega)
  clear h hbd Hr htot hz
  go_enter Tryz.func92, Tryz.ntmps92
  go_wp2_with fail
  refine hi1.out.mono ?_
  rintro e w1 ⟨rfl, hr1, hk1⟩
  have H1 := hid (Hw.out.next hr1 hk1)
  clear hr1 hk1
  go_wp2_with fail
  go_loopw [3, 7] (fun v i wr => ∃ (k : Nat) (acc : List Tag) (s : RS), i = .int .i64 k ∧ k ≤ n ∧ acc.length = k ∧ RdOwn tcells 2 90 117 b v acc s w wr ∧ RdIn rdTag total (n - k) acc s) (fun _ i _ => n - (RowKit.intOf i).toNat)
  case atStart => exact ⟨0, [], s1, rfl, Nat.zero_le _, rfl, H1.out, Hst.out⟩
  case round =>
    obtain ⟨k, acc, s, rfl, hkn, hlen, hI, hin⟩ := hrel
    have HI := hid hI
    have Hin := hid hin
    have Hlen := hid hlen
    have hl100 : acc.length ≤ 100 := by omega
    obtain ⟨a, c, rfl⟩ := own_shape_d hI.own
    clear hI hin hlen
    by_cases hlt : k < n
    · have hlt' : (k : Int) < (n : Int) := by omega
      have Hstep := hid (RdIn.step (m := n - (k + 1)) rdTag_none (by have := Hin.out; rw [show n - k = (n - (k + 1)) + 1 by omega] at this; exact this))
      have hM : rdTag s = (((rdText 100 s).1, (rdInt 1048576 (rdText 100 s).2).1), (rdInt 1048576 (rdText 100 s).2).2) := rfl
      rw [hM] at Hstep
      have h1 := hid (htext.out s)
      have h2 := hid (hcnt.out (rdText 100 s).2)
      clear hM
      generalize rdInt 1048576 (rdText 100 s).2 = N2 at *
      generalize rdText 100 s = N1 at *
      obtain ⟨q, t1⟩ := N1
      obtain ⟨ct, t2⟩ := N2
      dsimp only at h1 h2 Hstep
      go_wp2_with fail
      refine (h1.out wr HI.out.r.r).mono ?_
      rintro e w3 ⟨rfl, hr3, hk3⟩
      have I3 := hid (HI.out.next hr3 hk3)
      obtain ⟨y3, hy3⟩ : ∃ y3, y3 = w3.alloc (.cells #[.string (bs q), .int .i64 0] 90) := ⟨_, rfl⟩
      have J3 := hid (show RdOwn tcells 2 90 117 b (.slice a acc.length c) acc t1 w y3 from by rw [hy3]; exact I3.out.alloc _)
      have M3 := hid (show y3.heap[w3.heap.size]? = some (.cells #[.string (bs q), .int .i64 0] 90 (0, 0)) from by rw [hy3]; exact block_alloc_new _ _)
      have nm := hid (show w.heap.size ≤ w3.heap.size ∧ (∀ j, (Value.slice a acc.length c).ownBlock = some j → j ≠ w3.heap.size) from ⟨I3.out.r.k.size, fun j hj e => by have := (I3.out.own.lt j hj).2; omega⟩)
      clear hr3 hk3 I3 h1
      go_wp2_with fail
      rw [← hy3]
      clear hy3
      generalize w3.heap.size = m at *
      refine (h2.out y3 J3.out.r.r).mono ?_
      rintro e w4 ⟨rfl, hr4, hk4⟩
      have I4 := hid (J3.out.next hr4 hk4)
      have M4 := hid (block_kept M3.out hk4 (by have := nm.out.1; have := J3.out.wb; omega))
      have e1 := cell_of_block M4.out 1
      have f1 := free_of_block M4.out 1
      simp at e1
      obtain ⟨y4, hy4⟩ : ∃ y4, y4 = w4.setCell ⟨m, 1, none⟩ (.int .i64 ct) := ⟨_, rfl⟩
      have J4 := hid (show RdOwn tcells 2 90 117 b (.slice a acc.length c) acc t2 w y4 from by rw [hy4]; exact I4.out.set nm.out.1 nm.out.2 _)
      have N4 := hid (show y4.heap[m]? = some (.cells #[.string (bs q), .int .i64 ct] 90 (0, 0)) from by rw [hy4]; have := block_setCell M4.out 1 (.int .i64 ct); simpa using this)
      clear hr4 hk4 I4 M4 J3 M3 h2
      go_upto_region 6 with fail
      rw [← hy4]
      clear hy4 e1 f1
      have g0 := cell_of_block N4.out 0
      have g1 := cell_of_block N4.out 1
      simp at g0 g1
      have hs6 : w.heap.size ≤ (y4.alloc (.cells #[.string (bs q), .int .i64 ct] 90)).heap.size := by have := J4.out.r.k.size; simp; omega
      go_wp2_with (at_builtin; refine wpList_append_tags rfl _ _ rfl w.heap.size _ acc acc.length rfl (J4.out.own.alloc _) _ [(q, ct)] 1 rfl (tags_lit y4 (q, ct)) (by omega) hs6 ?_)
      intro v7 w7 hown7 hg7
      have Hown7 := hid (show w7.ownsRow w.heap.size 90 2 v7 (acc ++ [(q, ct)]).length (gvs tcells (acc ++ [(q, ct)])) from by rw [List.length_append]; exact hown7)
      have J7 := hid ((J4.out.alloc _).grow hg7 Hown7.out)
      obtain ⟨a7, c7, rfl⟩ := own_shape_d hown7
      clear hown7 hg7 g0 g1 hs6
      go_wp2
      go_roundw
      case rel => exact ⟨k + 1, acc ++ [(q, ct)], t2, by go_num, by omega, by simp [Hlen.out], J7.out, Hstep.out⟩
      case measure => simp [RowKit.intOf]; omega
    · obtain rfl : k = n := by omega
      have hlt' : ¬ (k : Int) < (k : Int) := by omega
      have Htt := hid (RdIn.fin (by have := Hin.out; rw [Nat.sub_self] at this; exact this))
      go_wp2_with fail
      refine (hfine.out s wr HI.out.r.r).mono ?_
      rintro e w3 ⟨rfl, hp3⟩
      have J3 := hid (HI.out.pure hp3)
      clear hp3
      cases s with
      | none =>
        have HR := hid (show R = ([], none) from by rw [Hr2.out, Htt.out])
        go_wp2_with fail
        refine (hneg.out none w3 J3.out.r.r).mono ?_
        rintro e w5 ⟨rfl, hr5, hk5⟩
        have J5 := hid (J3.out.next hr5 hk5)
        clear hr5 hk5
        go_wp2
        go_ret
        exact J5.out.none_ (by rw [HR.out]) (by rw [HR.out])
      | some r =>
        have HRr := hid (show R = if tchk acc then (acc, some r) else ([], none) from by rw [Hr2.out, Htt.out])
        have hcb := hid (hchk.out _ _ w3 J3.out.row (by omega))
        unfold er1 at hcb
        generalize tchk acc = V at *
        go_wp2_with fail
        refine hcb.out.mono ?_
        rintro e w4 ⟨rfl, hp4⟩
        have J4 := hid (J3.out.pure hp4)
        clear hp4
        cases V with
        | false =>
          have HR := hid (show R = ([], none) from HRr.out)
          go_wp2_with fail
          refine (hneg.out (some r) w4 J4.out.r.r).mono ?_
          rintro e w5 ⟨rfl, hr5, hk5⟩
          have J5 := hid (J4.out.next hr5 hk5)
          clear hr5 hk5
          go_wp2
          go_ret
          exact J5.out.none_ (by rw [HR.out]) (by rw [HR.out])
        | true =>
          have HR := hid (show R = (acc, some r) from HRr.out)
          go_wp2
          go_ret
          exact J4.out.done (by rw [HR.out]) (by rw [HR.out])
end Go.Proofs.YtdlpnhfgjficgaaGreat

namespace Go.Proofs.YtdlpnhfgjficgaaGreat
open Go.RowKit Go.Maps Go.Shelf

theorem mtextB_any (s : List UInt8) (w : World) (hn : s.length ≤ 1000000) :
    Calls Tryz.prog 128 #[.string (bs s)] w fun e w' => e = .returned (.string (bs (textB s))) ∧ Pure w w' := mtext_any s w hn
theorem rtextB_any (s : List UInt8) (w : World) (hn : s.length ≤ 1000000) :
    Calls Tryz.prog 132 #[.string (bs s)] w fun e w' => e = .returned (.string (bs (textB s))) ∧ Pure w w' := rtext_any s w hn
theorem tagsB_take (l : List Tag) (k : Nat) (h : k < l.length) : (num l.length ++ (l.take (k + 1)).flatMap tagB) = (num l.length ++ (l.take k).flatMap tagB) ++ tagB (l.getD k t0) := by
  rw [take_succ_g t0 l k h, List.flatMap_append]; simp
theorem tagB_len {t : Tag} (h : tmay t = true) : (tagB t).length ≤ 100 := by
  have hn := tmay_n h
  unfold tmay at h
  simp only [Bool.and_eq_true, decide_eq_true_eq] at h
  have h1 := num_len t.1.length (by omega)
  have h2 := num_len t.2.toNat (by omega)
  unfold tagB textB
  simp only [List.length_append]
  omega
theorem flatT_len (l : List Tag) (h : ∀ d ∈ l, tmay d = true) : (l.flatMap tagB).length ≤ 100 * l.length := by
  induction l with
  | nil => simp
  | cons a l ih =>
    have := tagB_len (h a (by simp))
    have := ih (fun d hd => h d (by simp [hd]))
    simp only [List.flatMap_cons, List.length_append, List.length_cons]; omega

set_option maxRecDepth 8000 in
set_option maxHeartbeats 2000000 in
theorem tbytes_any (v : Value) (l : List Tag) (w : World) (hr : Tags w v l) (hs : ∀ d ∈ l, tmay d = true) (hl : l.length ≤ 100000) :
    Calls Tryz.prog 64 #[v] w fun r w' => r = .returned (.string (bs (tagsB l))) ∧ Pure w w' := by
  obtain ⟨a, cap, rfl⟩ := hr.shape
  have Hr := hid hr
  have Hs := hid hs
  have hi := hid (mint_any l.length w (by omega) (by omega))
  unfold tagsB
  clear hr hs
  go_enter Tryz.func64, Tryz.ntmps64
  go_wp2_with (go_at_call 60; refine hi.out.mono ?_; rintro e w1 ⟨rfl, hp1⟩; have Hp1 := hid hp1; clear hp1)
  go_loopw [3, 5, 11] (fun s _ i wr => ∃ k : Nat, k ≤ l.length ∧ i = .int .i64 k ∧ s = .string (bs (num l.length ++ (l.take k).flatMap tagB)) ∧ Pure w wr) (fun _ _ i _ => l.length - (RowKit.intOf i).toNat)
  case atStart => exact ⟨0, Nat.zero_le _, rfl, by simp, Hp1.out⟩
  case round =>
    obtain ⟨k, hk, rfl, rfl, hp⟩ := hrel
    by_cases hlt : k < l.length
    · obtain ⟨b, off, rfl, hb, c0, c1⟩ := Tags.get (show Tags wr (.slice a l.length cap) l from Row.pure Hr.out hp) hlt
      have hlt' : (k : Int) < (l.length : Int) := by omega
      have Hstep := hid (tagsB_take l k hlt)
      have hsm := Hs.out _ (mem_get_g (z := t0) hlt)
      have hb1 := tagB_len hsm
      have hb2 : ((l.take k).flatMap tagB).length ≤ 10000000 := Nat.le_trans (flatT_len (l.take k) (fun d hd => Hs.out d (List.mem_of_mem_take hd))) (by rw [List.length_take]; omega)
      have hb3 := num_len l.length (by omega)
      have hn := tmay_n hsm
      have hx := hid (fun W => mtextB_any (l.getD k t0).1 W (by unfold tagB textB at hb1; simp only [List.length_append] at hb1; omega))
      have hy := hid (fun W => mint_any (l.getD k t0).2 W (by omega) (by omega))
      have Hp := hid hp
      clear hp hsm hn
      generalize l.getD k t0 = z at *
      obtain ⟨zs, zn⟩ := z
      dsimp only at c0 c1 hx hy
      have hb1 : (textB zs ++ num zn.toNat).length ≤ 100 := hb1
      have Hstep := hid (show num l.length ++ (l.take (k + 1)).flatMap tagB = (num l.length ++ (l.take k).flatMap tagB) ++ (textB zs ++ num zn.toNat) from Hstep.out)
      have hns : ¬ 9223372036854775807 < (bs (textB zs)).size + (bs (num zn.toNat)).size := by rw [bs_size, bs_size]; simp only [List.length_append] at hb1; omega
      have hns2 : ¬ 9223372036854775807 < (bs (num l.length ++ (l.take k).flatMap tagB)).size + ((bs (textB zs)).size + (bs (num zn.toNat)).size) := by rw [bs_size, bs_size, bs_size, List.length_append]; simp only [List.length_append] at hb1; omega
      have happ := hid (show bs (num l.length ++ (l.take k).flatMap tagB) ++ (bs (textB zs) ++ bs (num zn.toNat)) = bs ((num l.length ++ (l.take k).flatMap tagB) ++ (textB zs ++ num zn.toNat)) from by rw [bs_append, bs_append])
      clear hb1 hb2 hb3
      have hst := hid (show (wr.alloc (.cells #[.string (bs zs), .int .i64 zn] 90)).drew.cell? ⟨wr.heap.size, 0, none⟩ = some (.string (bs zs)) ∧ (wr.alloc (.cells #[.string (bs zs), .int .i64 zn] 90)).drew.cell? ⟨wr.heap.size, 1, none⟩ = some (.int .i64 zn) ∧ Pure wr (wr.alloc (.cells #[.string (bs zs), .int .i64 zn] 90)).drew from ⟨by simp, by simp, ((Below.refl _ _).alloc (Nat.le_refl _) _).drew⟩)
      have hkeep : Hid (∀ W W' : World, Pure W W' → (W.cell? ⟨wr.heap.size, 0, none⟩ = some (.string (bs zs)) ∧ W.cell? ⟨wr.heap.size, 1, none⟩ = some (.int .i64 zn) ∧ Pure wr W) → (W'.cell? ⟨wr.heap.size, 0, none⟩ = some (.string (bs zs)) ∧ W'.cell? ⟨wr.heap.size, 1, none⟩ = some (.int .i64 zn) ∧ Pure wr W')) := fun W W' hp ⟨a, b, c⟩ =>
        ⟨(hp.cell (World.block_lt_of_cell? W _ a)).trans a, (hp.cell (World.block_lt_of_cell? W _ b)).trans b, c.then_ hp⟩
      generalize bs (textB zs) = X at *
      generalize bs (num zn.toNat) = Y at *
      generalize hS : bs (num l.length ++ (l.take k).flatMap tagB) = S at *
      clear hS
      go_wp2_with fail
      go_region_held3 (fun W => W.cell? ⟨wr.heap.size, 0, none⟩ = some (.string (bs zs)) ∧ W.cell? ⟨wr.heap.size, 1, none⟩ = some (.int .i64 zn) ∧ Pure wr W)
        (first | exact hst.out | exact hkeep.out _ _ (by assumption) (by assumption))
        (first
          | (go_at_call 128; refine (hx.out _).mono ?_; rintro e w2 ⟨rfl, hp2⟩)
          | (go_at_call 60; refine (hy.out _).mono ?_; rintro e w2 ⟨rfl, hp2⟩))
      all_goals
        have hx' := hid (show w2.cell? ⟨wr.heap.size, 0, none⟩ = some (.string (bs zs)) ∧ w2.cell? ⟨wr.heap.size, 1, none⟩ = some (.int .i64 zn) ∧ Pure wr w2 from by assumption)
        clear hst hkeep hx hy
        go_wp2
        go_roundw
        (case rel => exact ⟨k + 1, by omega, by go_num, by rw [Hstep.out, ← happ.out], Hp.out.then_ hx'.out.2.2⟩)
        (case measure => simp [RowKit.intOf]; omega)
    · have hlt' : ¬ (k : Int) < (l.length : Int) := by omega
      have e : l.take k = l := List.take_of_length_le (by omega)
      rw [e]
      have Hp := hid hp
      clear hp e
      go_wp2
      go_ret
      exact ⟨rfl, Hp.out⟩
set_option maxRecDepth 8000 in
set_option maxHeartbeats 2000000 in
theorem rtbytes_any (v : Value) (l : List Tag) (w : World) (hr : Tags w v l) (hs : ∀ d ∈ l, tmay d = true) (hl : l.length ≤ 100000) :
    Calls Tryz.prog 65 #[v] w fun r w' => r = .returned (.string (bs (tagsB l))) ∧ Pure w w' := by
  obtain ⟨a, cap, rfl⟩ := hr.shape
  have Hr := hid hr
  have Hs := hid hs
  have hi := hid (rint_any l.length w (by omega) (by omega))
  unfold tagsB
  clear hr hs
  go_enter Tryz.func65, Tryz.ntmps65
  go_wp2_with (go_at_call 61; refine hi.out.mono ?_; rintro e w1 ⟨rfl, hp1⟩; have Hp1 := hid hp1; clear hp1)
  go_loopw [3, 4] (fun s i wr => ∃ k : Nat, k ≤ l.length ∧ i = .int .i64 k ∧ s = .string (bs (num l.length ++ (l.take k).flatMap tagB)) ∧ Pure w wr) (fun _ i _ => l.length - (RowKit.intOf i).toNat)
  case atStart => exact ⟨0, Nat.zero_le _, rfl, by simp, Hp1.out⟩
  case round =>
    obtain ⟨k, hk, rfl, rfl, hp⟩ := hrel
    by_cases hlt : k < l.length
    · obtain ⟨b, off, rfl, hb, c0, c1⟩ := Tags.get (show Tags wr (.slice a l.length cap) l from Row.pure Hr.out hp) hlt
      have hlt' : (k : Int) < (l.length : Int) := by omega
      have Hstep := hid (tagsB_take l k hlt)
      have hsm := Hs.out _ (mem_get_g (z := t0) hlt)
      have hb1 := tagB_len hsm
      have hb2 : ((l.take k).flatMap tagB).length ≤ 10000000 := Nat.le_trans (flatT_len (l.take k) (fun d hd => Hs.out d (List.mem_of_mem_take hd))) (by rw [List.length_take]; omega)
      have hb3 := num_len l.length (by omega)
      have hn := tmay_n hsm
      have hx := hid (fun W => rtextB_any (l.getD k t0).1 W (by unfold tagB textB at hb1; simp only [List.length_append] at hb1; omega))
      have hy := hid (fun W => rint_any (l.getD k t0).2 W (by omega) (by omega))
      have Hp := hid hp
      clear hp hsm hn
      generalize l.getD k t0 = z at *
      obtain ⟨zs, zn⟩ := z
      dsimp only at c0 c1 hx hy
      have hb1 : (textB zs ++ num zn.toNat).length ≤ 100 := hb1
      have Hstep := hid (show num l.length ++ (l.take (k + 1)).flatMap tagB = (num l.length ++ (l.take k).flatMap tagB) ++ (textB zs ++ num zn.toNat) from Hstep.out)
      have hns : ¬ 9223372036854775807 < (bs (num l.length ++ (l.take k).flatMap tagB)).size + (bs (textB zs)).size := by rw [bs_size, bs_size, List.length_append]; simp only [List.length_append] at hb1; omega
      have hns2 : ¬ 9223372036854775807 < (bs (num l.length ++ (l.take k).flatMap tagB)).size + (bs (textB zs)).size + (bs (num zn.toNat)).size := by rw [bs_size, bs_size, bs_size, List.length_append]; simp only [List.length_append] at hb1; omega
      have happ := hid (show bs (num l.length ++ (l.take k).flatMap tagB) ++ bs (textB zs) ++ bs (num zn.toNat) = bs ((num l.length ++ (l.take k).flatMap tagB) ++ (textB zs ++ num zn.toNat)) from by rw [bs_append, bs_append, List.append_assoc])
      clear hb1 hb2 hb3
      have hst := hid (show wr.drew.cell? ⟨b, off + k * 2, none⟩ = some (.string (bs zs)) ∧ wr.drew.cell? ⟨b, off + k * 2 + 1, none⟩ = some (.int .i64 zn) ∧ Pure wr wr.drew from ⟨c0, c1, (Below.refl _ _).drew⟩)
      have hkeep : Hid (∀ W W' : World, Pure W W' → (W.cell? ⟨b, off + k * 2, none⟩ = some (.string (bs zs)) ∧ W.cell? ⟨b, off + k * 2 + 1, none⟩ = some (.int .i64 zn) ∧ Pure wr W) → (W'.cell? ⟨b, off + k * 2, none⟩ = some (.string (bs zs)) ∧ W'.cell? ⟨b, off + k * 2 + 1, none⟩ = some (.int .i64 zn) ∧ Pure wr W')) := fun W W' hp ⟨a, b, c⟩ =>
        ⟨(hp.cell (World.block_lt_of_cell? W _ a)).trans a, (hp.cell (World.block_lt_of_cell? W _ b)).trans b, c.then_ hp⟩
      generalize bs (textB zs) = X at *
      generalize bs (num zn.toNat) = Y at *
      generalize hS : bs (num l.length ++ (l.take k).flatMap tagB) = S at *
      clear hS
      go_wp2_with fail
      go_region_held3 (fun W => W.cell? ⟨b, off + k * 2, none⟩ = some (.string (bs zs)) ∧ W.cell? ⟨b, off + k * 2 + 1, none⟩ = some (.int .i64 zn) ∧ Pure wr W)
        (first | exact hst.out | exact hkeep.out _ _ (by assumption) (by assumption))
        (first
          | (go_at_call 132; refine (hx.out _).mono ?_; rintro e w2 ⟨rfl, hp2⟩)
          | (go_at_call 61; refine (hy.out _).mono ?_; rintro e w2 ⟨rfl, hp2⟩))
      all_goals
        have hx' := hid (show w2.cell? ⟨b, off + k * 2, none⟩ = some (.string (bs zs)) ∧ w2.cell? ⟨b, off + k * 2 + 1, none⟩ = some (.int .i64 zn) ∧ Pure wr w2 from by assumption)
        clear hst hkeep hx hy
        go_wp2
        go_roundw
        (case rel => exact ⟨k + 1, by omega, by go_num, by rw [Hstep.out, ← happ.out], Hp.out.then_ hx'.out.2.2⟩)
        (case measure => simp [RowKit.intOf]; omega)
    · have hlt' : ¬ (k : Int) < (l.length : Int) := by omega
      have e : l.take k = l := List.take_of_length_le (by omega)
      rw [e]
      have Hp := hid hp
      clear hp e
      go_wp2
      go_ret
      exact ⟨rfl, Hp.out⟩
end Go.Proofs.YtdlpnhfgjficgaaGreat

