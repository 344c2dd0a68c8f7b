/- view.Join. -/
import Derived.Test.YtdlpnhfgjficgaaGreatVQ
import Derived.Test.YtdlpnhfgjficgaaGreatMVm
import Derived.Test.YtdlpnhfgjficgaaGreatTJ
namespace Go.Proofs.YtdlpnhfgjficgaaGreat
open Go.RowKit Go.Maps Go.Shelf Go.Sort

/-! ### the map and the rising list that it stands for -/
def jnew (m : List (Int × Pr)) (p : Pr) : Pr := match mlook m p.id with
  | some q => later q p
  | none => p
structure MA (m : List (Int × Pr)) (acc : List Pr) : Prop where
  rise : VS acc
  look : ∀ k, mlook m k = vget acc k
  ids : ∀ x ∈ m, x.2.id = x.1
theorem MA.nil : MA [] [] := ⟨KS.nil, fun _ => rfl, by simp⟩
theorem mlook_mem {m : List (Int × Pr)} {k : Int} {p : Pr} (h : mlook m k = some p) : (k, p) ∈ m := by
  unfold mlook at h
  cases hf : m.find? (fun p => p.1 == k) with
  | none => rw [hf] at h; simp at h
  | some x =>
    rw [hf] at h
    have h1 := List.mem_of_find?_eq_some hf
    have h2 := List.find?_some hf
    simp at h h2
    obtain ⟨a, b⟩ := x
    dsimp only at h h2
    subst h h2
    exact h1
theorem mlook_of_mem : ∀ {m : List (Int × Pr)} {x : Int × Pr}, (m.map (·.1)).Nodup → x ∈ m → mlook m x.1 = some x.2
  | [], x, _, h => by simp at h
  | y :: m, x, hn, h => by
    obtain ⟨h1, h2⟩ := List.nodup_cons.1 (List.map_cons (f := fun x : Int × Pr => x.1) ▸ hn)
    unfold mlook
    rcases List.mem_cons.1 h with rfl | h
    · simp
    · have hne : ¬ (y.1 == x.1) = true := fun e => h1 (by rw [show y.1 = x.1 by simpa using e]; exact List.mem_map.2 ⟨x, h, rfl⟩)
      rw [List.find?_cons_of_neg (by simpa using hne)]
      exact mlook_of_mem h2 h
theorem jnew_id {m : List (Int × Pr)} {acc : List Pr} (h : MA m acc) (p : Pr) : (jnew m p).id = p.id := by
  unfold jnew
  split
  · rename_i q hq
    have := h.ids _ (mlook_mem hq)
    dsimp only at this
    rw [later_id this, this]
  · rfl
theorem mput_memP {m : List (Int × Pr)} {k : Int} {v : Pr} {e : Int × Pr} (h : e ∈ mput m k v) : e ∈ m ∨ e = (k, v) := by
  induction m with
  | nil => simp [mput] at h; exact .inr h
  | cons a m ih =>
    unfold mput at h
    split at h
    · rcases List.mem_cons.1 h with h | h
      · exact .inr h
      · exact .inl (List.mem_cons_of_mem _ h)
    · rcases List.mem_cons.1 h with h | h
      · exact .inl (by simp [h])
      · rcases ih h with h | h
        · exact .inl (List.mem_cons_of_mem _ h)
        · exact .inr h
theorem mput_lenP (m : List (Int × Pr)) (k : Int) (v : Pr) : (mput m k v).length ≤ m.length + 1 := by
  induction m with
  | nil => simp [mput]
  | cons a m ih =>
    unfold mput
    split
    · simp
    · simp only [List.length_cons]; omega
theorem mlook_mputP (m : List (Int × Pr)) (k j : Int) (v : Pr) : mlook (mput m k v) j = if j = k then some v else mlook m j := by
  induction m with
  | nil =>
    unfold mput mlook
    by_cases h : j = k
    · subst h; simp
    · have h' : ¬ k = j := fun e => h e.symm
      simp [h, h']
  | cons a m ih =>
    unfold mput
    by_cases hk : a.1 = k
    · rw [if_pos (by simpa using hk)]
      unfold mlook
      by_cases h : j = k
      · subst h; simp
      · rw [if_neg h, List.find?_cons_of_neg (by simpa using fun e => h (Eq.symm e)), List.find?_cons_of_neg (by rw [hk]; simpa using fun e => h (Eq.symm e))]
    · rw [if_neg (by simpa using hk)]
      unfold mlook at *
      by_cases h : a.1 = j
      · rw [List.find?_cons_of_pos (by simpa using h), List.find?_cons_of_pos (by simpa using h), if_neg (fun e => hk (by rw [h, e]))]
      · rw [List.find?_cons_of_neg (by simpa using h), List.find?_cons_of_neg (by simpa using h), ih]
theorem MA.put {m : List (Int × Pr)} {acc : List Pr} (h : MA m acc) (p : Pr) : MA (mput m p.id (jnew m p)) (pins p acc) := by
  refine ⟨pins_rise p h.rise, fun k => ?_, fun x hx => ?_⟩
  · rw [mlook_mputP, pins_get p acc k h.rise]
    by_cases hk : k = p.id
    · rw [if_pos hk, if_pos hk.symm]
      unfold jnew
      rw [h.look, hk]
      cases vget acc p.id <;> rfl
    · rw [if_neg hk, if_neg (fun e => hk e.symm)]; exact h.look k
  · rcases mput_memP hx with hx | rfl
    · exact h.ids x hx
    · exact jnew_id h p
theorem MA.sorted {m : List (Int × Pr)} {acc ss : List Pr} (h : MA m acc) (hn : (m.map (·.1)).Nodup) (hp : ss.Perm (m.map (·.2))) (hs : ss.Pairwise (fun a b => ¬ b.id < a.id)) : ss = acc := by
  have e : (m.map (·.2)).map (fun p => p.id) = m.map (·.1) := by rw [List.map_map]; exact List.map_congr_left (fun x hx => h.ids x hx)
  have hnd : (ss.map (fun p => p.id)).Nodup := by
    have := (hp.map (fun p => p.id)).nodup_iff.2 (by rw [e]; exact hn)
    exact this
  have hr : VS ss := by
    refine (hs.and (List.pairwise_map.1 hnd)).imp ?_
    rintro a b ⟨h1, h2⟩
    show a.id < b.id
    omega
  refine KS.eq_of_mem il_irr il_tr hr h.rise (fun x => ?_)
  rw [hp.mem_iff, KS.mem_get il_irr h.rise, show kget (fun p : Pr => p.id) acc x.id = mlook m x.id from (h.look x.id).symm]
  constructor
  · intro hx
    obtain ⟨y, hy, rfl⟩ := List.mem_map.1 hx
    rw [h.ids y hy]
    exact mlook_of_mem hn hy
  · intro hx
    exact List.mem_map.2 ⟨_, mlook_mem hx, rfl⟩
def vacc (l : List Pr) : List Pr := l.foldl (fun o p => pins p o) []
theorem vacc_join {l k : List Pr} (h1 : VS l) : vacc (l ++ k) = vfold l k := by
  unfold vacc
  rw [List.foldl_append]
  have e : vfold [] l = l := by
    obtain ⟨g1, g2⟩ := vfold_spec l [] KS.nil h1
    refine KS.ext il_irr il_tr g1 h1 (fun x => (g2 x).trans ?_)
    show vof none (vget l x) = vget l x
    generalize vget l x = o
    cases o <;> rfl
  show vfold (vfold [] l) k = vfold l k
  rw [e]
theorem vacc_take {l : List Pr} {k : Nat} (h : k < l.length) : vacc (l.take (k + 1)) = pins (l.getD k p0) (vacc (l.take k)) := by
  unfold vacc
  rw [take_succ_p l k h, List.foldl_append]; rfl

theorem zeroPeer (w : World) : (zeroValue 92).run Tryz.prog w = .ok (.agg #[.int .i64 0, .int .i64 0, .int .i64 0]) w := by kernel_rfl
def VPutO (bm : Nat) (m : List (Int × Pr)) (p : Pr) (w : World) (e : Ending) (w' : World) : Prop := e = .returned (.tuple #[]) ∧ IMap pv w' bm (mput m p.id (jnew m p)) ∧ Kept (fun k => k = bm) w w'
set_option maxRecDepth 8000 in
set_option maxHeartbeats 4000000 in
theorem vjput_any (p : Pr) (nb bm : Nat) (m : List (Int × Pr)) (acc : List Pr) (w : World) (hb : w.heap[nb]? = some (.cells #[.map (some bm)] 160 (0, 0))) (hm : IMap pv w bm m) (hA : MA m acc) (hw : (Lit.int .i64 p.id).wf = true) :
    Calls Tryz.prog 150 (#[pv p] ++ #[.pointer (some ⟨nb, 0, none⟩)]) w (VPutO bm m p w) := by
  have hid_ := jnew_id hA p
  have hlt := lt_of_block hb
  have hp1 : ∀ o, Pure w (w.alloc o) := fun o => (Below.refl _ _).alloc (Nat.le_refl _) o
  have hlk := (hm.pure (hp1 (.cells #[.int .i64 p.id, .int .i64 p.inc, .int .i64 p.st] 92))).look (P := Tryz.prog) Tryz.underlying3 Tryz.underlying160 (zeroPeer _) p.id hw true
  have hbox := hid (fun W (hW : Pure w W) => (show W.cell? ⟨nb, 0, none⟩ = some (.map (some bm)) from cell_of_block ((hW.block _ hlt).trans hb) 0))
  have Hm := hid hm
  have HP1 := hid hp1
  have b0 := hbox.out _ (hp1 (.cells #[.int .i64 p.id, .int .i64 p.inc, .int .i64 p.st] 92))
  have b1 := hbox.out _ (Below.refl _ w)
  unfold VPutO
  obtain ⟨x, y, z⟩ := p
  dsimp only at *
  show Calls Tryz.prog 150 #[.agg #[.int .i64 x, .int .i64 y, .int .i64 z], .pointer (some ⟨nb, 0, none⟩)] w _
  have Hj := hid (show jnew m ⟨x, y, z⟩ = (match mlook m x with | some q => later q ⟨x, y, z⟩ | none => ⟨x, y, z⟩) from rfl)
  cases hq : mlook m x with
  | none =>
    rw [hq] at hlk Hj
    simp only [Option.map_none, Option.getD_none, Option.isSome_none, if_true] at hlk
    dsimp only at Hj
    rw [Hj.out]
    have b2 := hbox.out _ ((hp1 (.cells #[.int .i64 x, .int .i64 y, .int .i64 z] 92)).then_ ((Below.refl _ _).alloc (Nat.le_refl _) (.cells #[.int .i64 0, .int .i64 0, .int .i64 0] 92)))
    have Hm2 := hid (Hm.out.pure (Pure.then_ (hp1 (.cells #[.int .i64 x, .int .i64 y, .int .i64 z] 92)) ((Below.refl _ _).alloc (Nat.le_refl _) (.cells #[.int .i64 0, .int .i64 0, .int .i64 0] 92))))
    have Hp2 := hid (Pure.then_ (hp1 (.cells #[.int .i64 x, .int .i64 y, .int .i64 z] 92)) ((Below.refl _ _).alloc (Nat.le_refl _) (.cells #[.int .i64 0, .int .i64 0, .int .i64 0] 92)))
    clear hm hb hA hp1 hid_ hlt Hj
    go_enter Tryz.func150, Tryz.ntmps150
    go_wp2_with (at_mapUpdate; refine wpList_put pv _ rfl _ _ _ 160 rfl 3 92 Tryz.underlying3 Tryz.underlying160 bm m rfl Hm2.out x hw ⟨x, y, z⟩ rfl rfl ?_; intro w3 hmap3 hg3 hs3; have Hmap3 := hid hmap3; have Hg3 := hid hg3; clear hmap3 hg3 hs3)
    go_end0
    exact ⟨rfl, Hmap3.out, (Pure.kept Hp2.out).grown Hg3.out (fun j hj _ => by cases hj; rfl)⟩
  | some q =>
    rw [hq] at hlk Hj
    simp only [Option.map_some, Option.getD_some, Option.isSome_some, if_true] at hlk
    dsimp only at Hj
    rw [Hj.out] at hid_ ⊢
    obtain ⟨q1, q2, q3⟩ := q
    have b2 := hbox.out _ ((hp1 (.cells #[.int .i64 x, .int .i64 y, .int .i64 z] 92)).then_ ((Below.refl _ _).alloc (Nat.le_refl _) (.cells #[.int .i64 q1, .int .i64 q2, .int .i64 q3] 92)))
    have Hp2 := hid (Pure.then_ (hp1 (.cells #[.int .i64 x, .int .i64 y, .int .i64 z] 92)) ((Below.refl _ _).alloc (Nat.le_refl _) (.cells #[.int .i64 q1, .int .i64 q2, .int .i64 q3] 92)))
    have Hla := hid (fun W => vlater_any ⟨q1, q2, q3⟩ ⟨x, y, z⟩ W)
    generalize later ⟨q1, q2, q3⟩ ⟨x, y, z⟩ = r at *
    obtain ⟨r1, r2, r3⟩ := r
    dsimp only at hid_
    subst hid_
    unfold pv at hlk Hla
    dsimp only at hlk Hla
    have n1 := block_alloc_new w (.cells #[.int .i64 r1, .int .i64 y, .int .i64 z] 92)
    have n2 := block_alloc_old n1 (.cells #[.int .i64 q1, .int .i64 q2, .int .i64 q3] 92)
    have N2 := hid n2
    clear hm hb hA hp1 hlt Hj n1 n2
    go_enter Tryz.func150, Tryz.ntmps150
    go_wp2_with fail
    refine (Hla.out _).mono ?_
    rintro e w1 ⟨rfl, hp⟩
    have M1 := (hp.block _ (lt_of_block N2.out)).trans N2.out
    have e0 : w1.cell? ⟨w.heap.size, 0, none⟩ = some (.int .i64 r1) := cell_of_block M1 0
    have e1 : w1.cell? ⟨w.heap.size, 1, none⟩ = some (.int .i64 y) := cell_of_block M1 1
    have e2 : w1.cell? ⟨w.heap.size, 2, none⟩ = some (.int .i64 z) := cell_of_block M1 2
    have g0 : w1.frozen? ⟨w.heap.size, 0, none⟩ = false := by simp [World.frozen?, M1]
    have g1 : w1.frozen? ⟨w.heap.size, 1, none⟩ = false := by simp [World.frozen?, M1]
    have g2 : w1.frozen? ⟨w.heap.size, 2, none⟩ = false := by simp [World.frozen?, M1]
    have hp4 : Pure w (((w1.setCell ⟨w.heap.size, 0, none⟩ (.int .i64 r1)).setCell ⟨w.heap.size, 1, none⟩ (.int .i64 r2)).setCell ⟨w.heap.size, 2, none⟩ (.int .i64 r3)) := Below.setCell (Below.setCell (Below.setCell (show Pure w w1 from Pure.then_ Hp2.out hp) (Nat.le_refl _) _) (Nat.le_refl _) _) (Nat.le_refl _) _
    have b4 := hbox.out _ hp4
    have Hm4 := hid (Hm.out.pure hp4)
    have Hp4 := hid hp4
    obtain ⟨k0, k1, k2⟩ := BA4.put M1 r1 r2 r3
    clear hp hp4 M1 b0 b1 b2
    go_wp2_with (at_mapUpdate; refine wpList_put pv _ rfl _ _ _ 160 rfl 3 92 Tryz.underlying3 Tryz.underlying160 bm m rfl Hm4.out r1 hw ⟨r1, r2, r3⟩ rfl rfl ?_; intro w5 hmap3 hg3 hs3; have Hmap3 := hid hmap3; have Hg3 := hid hg3; clear hmap3 hg3 hs3)
    go_end0
    exact ⟨rfl, Hmap3.out, (Pure.kept Hp4.out).grown Hg3.out (fun j hj _ => by cases hj; rfl)⟩

theorem penc : Enc pcells 3 := ⟨fun _ => rfl, pcells_one⟩
theorem pvs_take (l : List Pr) (k : Nat) : (pvs l).take (k * 3) = pvs (l.take k) := gvs_take penc l k
theorem sizePeer (W : World) : (sizeOf 92).run Tryz.prog W = .ok 3 W := by kernel_rfl
theorem pwf {p : Pr} (h : pmay p = true) : (Lit.int .i64 p.id).wf = true := wf_i64 _ (by have := pmay_bd h; omega)
/-- A view that is handed back. -/
def PeerO (w : World) (l : List Pr) (e : Ending) (w' : World) : Prop := ∃ v, e = .returned v ∧ Peers w' v l ∧ (∀ k, v.rb = some k → w.heap.size ≤ k) ∧ Pure w w'
set_option maxRecDepth 8000 in
set_option maxHeartbeats 8000000 in
theorem vjoin_any (v0 v1 : Value) (l0 k0 : List Pr) (w : World) (h0 : Peers w v0 l0) (h1 : Peers w v1 k0) (r0 : VS l0) (m0 : ∀ p ∈ l0 ++ k0, pmay p = true) (n0 : l0.length ≤ 1000) (n1 : k0.length ≤ 1000) :
    Calls Tryz.prog 97 #[v0, v1] w (PeerO w (vjoin l0 k0)) := by
  obtain ⟨W1, hW1⟩ : ∃ W1, W1 = ((w.alloc (.map #[] 0)).alloc (.cells #[.map (some w.heap.size)] 160)).alloc (.cells #[v0, v1] 50) := ⟨_, rfl⟩
  have Hp1 := hid (show Pure w W1 from by rw [hW1]; exact (((Below.refl _ _).alloc (Nat.le_refl _) _).alloc (by simp) _).alloc (by simp; omega) _)
  have hs1 : W1.heap.size = w.heap.size + 3 := by rw [hW1]; simp
  have hm1 : IMap pv W1 w.heap.size [] := by
    have := IMap.made pv w
    rw [hW1]
    exact (this.pure ((Below.refl _ _).alloc (Nat.le_refl _) _)).pure ((Below.refl _ _).alloc (Nat.le_refl _) _)
  have hb1 : W1.heap[w.heap.size + 1]? = some (.cells #[.map (some w.heap.size)] 160 (0, 0)) := by
    rw [hW1]
    have := block_alloc_new (w.alloc (.map #[] 0)) (.cells #[.map (some w.heap.size)] 160)
    rw [World.size_alloc] at this
    exact block_alloc_old this _
  have hb2 : W1.heap[w.heap.size + 2]? = some (.cells #[v0, v1] 50 (0, 0)) := by
    rw [hW1]
    have := block_alloc_new ((w.alloc (.map #[] 0)).alloc (.cells #[.map (some w.heap.size)] 160)) (.cells #[v0, v1] 50)
    simpa using this
  have c0 : W1.cell? ⟨w.heap.size + 2, 0, none⟩ = some v0 := cell_of_block hb2 0
  have c1 : W1.cell? ⟨w.heap.size + 2, 1, none⟩ = some v1 := cell_of_block hb2 1
  have Hcc := hid (fun cp => concatp_any (w.heap.size + 2) cp v0 v1 l0 k0 W1 c0 c1 (Row.pure h0 Hp1.out) (Row.pure h1 Hp1.out) (by omega) (by omega) (by omega))
  obtain ⟨a0, q0, rfl⟩ := Peers.shape h0
  obtain ⟨a1, q1, rfl⟩ := Peers.shape h1
  have Hm1 := hid hm1
  have Hb1 := hid hb1
  have Hs1 := hid hs1
  clear h0 h1 hm1 hb1 hb2 c0 c1 hs1
  have hmm := @run_makeMap Tryz.prog
  have Hv := hid (show (vacc (l0 ++ k0)).take 64 = vjoin l0 k0 from by rw [vacc_join r0]; rfl)
  have Hmay := hid (fun k (hk : k < (l0 ++ k0).length) => m0 _ (mem_get_p hk))
  have hcat : (l0 ++ k0).length ≤ 2000 := by simp; omega
  clear r0 m0 n0 n1
  generalize vjoin l0 k0 = R at *
  generalize hL : l0 ++ k0 = L at *
  clear hL
  go_enter Tryz.func97, Tryz.ntmps97
  go_wp2_with fail
  rw [← hW1]
  clear hW1 hmm
  refine (Hcc.out _).mono ?_
  rintro e w2 ⟨v2, rfl, hown, hp2⟩
  have Hp2 := hid (show Pure w w2 from Pure.then_ Hp1.out hp2)
  have Hrow := hid (show Peers w2 v2 L from Row.of_own hown)
  have Hblk := hid (fun k (hk : v2.rb = some k) => (hown.lt k (rb_own hk)).1)
  have Hm2 := hid (show IMap pv w2 w.heap.size [] from Hm1.out.pure hp2)
  have Hb2 := hid (show w2.heap[w.heap.size + 1]? = some (.cells #[.map (some w.heap.size)] 160 (0, 0)) from (hp2.block _ (lt_of_block Hb1.out)).trans Hb1.out)
  have Hnb := hid (show w.heap.size + 1 ≠ w.heap.size from by omega)
  obtain ⟨a2, q2, rfl⟩ := own_shape_p hown
  clear hown hp2 Hcc
  go_wp2
  go_loopw [8, 17] (fun _ i wr => ∃ (k : Nat) (m : List (Int × Pr)), k ≤ L.length ∧ i = .int .i64 k ∧ IMap pv wr w.heap.size m ∧ MA m (vacc (L.take k)) ∧ m.length ≤ k ∧ Kept (fun j => j = w.heap.size) w2 wr) (fun _ i _ => L.length - (RowKit.intOf i).toNat)
  case atStart => exact ⟨0, [], Nat.zero_le _, rfl, Hm2.out, MA.nil, Nat.le_refl _, Kept.refl _ _⟩
  case round =>
    obtain ⟨k, m, hk, rfl, hmap, hma, hml, hkp⟩ := hrel
    have Hkp := hid hkp
    have Hmap := hid hmap
    have Hma := hid hma
    have Hml := hid hml
    have hbx : wr.heap[w.heap.size + 1]? = some (.cells #[.map (some w.heap.size)] 160 (0, 0)) := (hkp.block _ (lt_of_block Hb2.out) Hnb.out).trans Hb2.out
    by_cases hlt : k < L.length
    · obtain ⟨b, off, rfl, hb0, x0, x1, x2⟩ := Peers.get (show Peers wr (.slice a2 L.length q2) L from Row.kept Hrow.out hkp (fun j hj e => by have := Hblk.out j hj; have := Hs1.out; omega)) hlt
      have hlt' : (k : Int) < (L.length : Int) := by omega
      have Hvt := hid (vacc_take hlt)
      have Hpm := hid (Hmay.out k hlt)
      generalize L.getD k p0 = z at *
      have Hput := hid (fun W (hW : Pure wr W) => vjput_any z (w.heap.size + 1) w.heap.size m (vacc (L.take k)) W ((hW.block _ (lt_of_block hbx)).trans hbx) (hmap.pure hW) hma (pwf Hpm.out))
      have Hst := hid (hma.put z)
      have Hmll := hid (mput_lenP m z.id (jnew m z))
      unfold VPutO at Hput
      generalize mput m z.id (jnew m z) = m' at *
      obtain ⟨z1, z2, z3⟩ := z
      dsimp only at x0 x1 x2
      have Hpa := hid (show Pure wr (wr.alloc (.cells #[.int .i64 z1, .int .i64 z2, .int .i64 z3] 92)) from (Below.refl _ _).alloc (Nat.le_refl _) _)
      clear hmap hkp hb0 hma hml hbx
      go_wp2_with fail
      refine (Hput.out _ Hpa.out).mono ?_
      rintro e w3 ⟨rfl, hm3, hk3⟩
      have Hm3 := hid hm3
      have Hk3 := hid hk3
      clear hm3 hk3
      go_wp2
      go_roundw
      case rel => exact ⟨k + 1, m', by omega, by go_num, Hm3.out, by rw [Hvt.out]; exact Hst.out, by have := Hmll.out; have := Hml.out; omega, Hkp.out.trans ((Pure.kept Hpa.out).trans Hk3.out)⟩
      case measure => simp [RowKit.intOf]; omega
    · obtain rfl : k = L.length := by omega
      have hlt' : ¬ (L.length : Int) < (L.length : Int) := by omega
      rw [List.take_of_length_le (Nat.le_refl _)] at Hma
      have Hk := hid (values_call (some w.heap.size) wr)
      have Hs := hid (sortedfunc_call w.heap.size m wr hmap (by omega))
      have Hnd := hid (show (m.map (·.1)).Nodup from by
        obtain ⟨_, _, _, _, h, _⟩ := hmap.ownsP (P := Tryz.prog) Tryz.underlying3 (by unfold maxLen; omega)
        exact h)
      have hbc : wr.cell? ⟨w.heap.size + 1, 0, none⟩ = some (.map (some w.heap.size)) := cell_of_block hbx 0
      have Hpw := hid (show Pure w wr from (Kept.trans (Pure.kept (S := fun k => k = w.heap.size) Hp2.out) hkp).below (Nat.le_refl _) (fun k hk e => by omega))
      clear hmap hkp hma hml hbx
      go_wp2_with fail
      refine Hk.out.mono ?_
      rintro e w3 ⟨rfl, rfl⟩
      go_wp2_with fail
      refine Hs.out.mono ?_
      rintro e w4 ⟨v4, ss, rfl, hp4, hpw4, hown4, hpu4⟩
      obtain rfl := Hma.out.sorted Hnd.out hp4 (hpw4.imp (fun {a b} h => by omega))
      have Hpu4 := hid hpu4
      have Hown4 := hid hown4
      have hlen : (vacc L).length ≤ 2000 := by
        have := hp4.length_eq
        simp only [List.length_map] at this
        have := Hml.out
        omega
      obtain ⟨a4, q4, rfl⟩ := own_shape_p hown4
      clear hp4 hpw4 hpu4
      generalize vacc L = Y at *
      have hmin : min (Y.length : Int) 64 = ((min Y.length 64 : Nat) : Int) := by omega
      obtain ⟨hV, hVr⟩ := slice_pre_eq (P := Tryz.prog) Tryz.underlying50 (Row.of_own hown4) (k := min Y.length 64) (by omega) (by rcases own_plain_d hown4 with ⟨p, c, e, h⟩; injection e with e1 e2 e3; subst e1; exact h) sizePeer
      rw [← hmin] at hV
      have HVr := hid (show Peers w4 (.slice a4 (min Y.length 64) q4) R from by
        have := hVr w4 (Row.of_own hown4)
        rw [pvs_take] at this
        have e : Y.take (min Y.length 64) = Y.take 64 := by
          rcases Nat.le_total Y.length 64 with h | h
          · rw [Nat.min_eq_left h, List.take_of_length_le (Nat.le_refl _), List.take_of_length_le h]
          · rw [Nat.min_eq_right h]
        rw [e, Hv.out] at this
        have e2 : R.length = min Y.length 64 := by rw [← Hv.out, List.length_take, Nat.min_comm]
        unfold Peers
        rw [e2]
        exact this)
      have Hf := hid (show ∀ j, (Value.slice a4 (min Y.length 64) q4).rb = some j → w.heap.size ≤ j from fun j hj => Nat.le_trans Hpw.out.size (Hown4.out.lt j (by
        unfold Value.rb at hj
        unfold Value.ownBlock
        cases a4 with
        | none => cases hj
        | some ad => dsimp only at hj ⊢; split at hj <;> simp_all)).1)
      have hle : min Y.length 64 ≤ q4 := by
        obtain ⟨_, a', c', e, h1, _⟩ := Row.of_own hown4
        cases e; omega
      have hyy : (0 : Int) ≤ (Y.length : Int) := by omega
      clear hown4 hVr
      go_wp2
      go_ret
      exact ⟨.slice a4 (min Y.length 64) q4, rfl, HVr.out, Hf.out, Hpw.out.then_ Hpu4.out⟩
end Go.Proofs.YtdlpnhfgjficgaaGreat
