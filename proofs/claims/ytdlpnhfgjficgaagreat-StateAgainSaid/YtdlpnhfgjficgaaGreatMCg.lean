/- Records applied again change nothing: StateAgain in plain words. StateAgain: the walk. -/
import Derived.Test.YtdlpnhfgjficgaaGreatMRn
import Derived.Test.YtdlpnhfgjficgaaGreatCO
import Derived.Maps.AppendAt
namespace Go.Proofs.YtdlpnhfgjficgaaGreat
open Go.RowKit Go.Maps

def actI (b : Int) (S : SD) : SD := { S with id := b }
def actU (m : Int) (S : SD) : SD := { S with up := max S.up m }
theorem appl_I {x : Rc} (h : K7 x = 0) : ∃ b : Nat, b < 4 ∧ ∀ S : SD, appl S (rtext x) = if b < 1 then (S, 10) else if S.id ≠ 0 ∧ num S.id.toNat ≠ num b then (S, 13) else (actI b S, 0) := by
  have hb := andK x.n 3 (by decide)
  refine ⟨(bits .and .i64 x.n 3).toNat, by omega, fun S => ?_⟩
  have ht : rtext x = 73 :: num (bits .and .i64 x.n 3).toNat := by unfold rtext; rw [if_pos h]
  rw [ht]
  generalize hn : (bits .and .i64 x.n 3).toNat = b at *
  have e := rdInt_num 1099511627776 b (by omega) (by omega) []
  rw [List.append_nil] at e
  show ({ S with id := (apI S.id (num b)).1 }, (apI S.id (num b)).2) = _
  unfold apI
  rw [e]
  dsimp only
  by_cases h1 : b < 1
  · rw [if_pos (.inl (by omega)), if_pos h1]
  · rw [if_neg (by rintro (h | h); omega; exact h rfl), if_neg h1]
    split <;> rfl
theorem appl_U {x : Rc} (h : K7 x = 1) : (∀ S, (appl S (rtext x)).1 = S ∧ (appl S (rtext x)).2 ≠ 0) ∨ ∃ m, ∀ S, appl S (rtext x) = (actU m S, 0) := by
  have ht : rtext x = 82 :: num (max 0 x.n).toNat := by unfold rtext; rw [if_neg (by omega), if_pos h]
  rw [ht]
  by_cases hc : (rdInt 1099511627776 (some (num (max 0 x.n).toNat))).1 < 1 ∨ (rdInt 1099511627776 (some (num (max 0 x.n).toNat))).2 ≠ some []
  · left
    intro S
    show ({ S with up := (apR S.up _).1 } : SD) = S ∧ (apR S.up _).2 ≠ 0
    unfold apR
    rw [if_pos hc]
    exact ⟨rfl, by show (10 : Int) ≠ 0; decide⟩
  · right
    refine ⟨(rdInt 1099511627776 (some (num (max 0 x.n).toNat))).1, fun S => ?_⟩
    show ({ S with up := (apR S.up _).1 }, (apR S.up _).2) = _
    unfold apR
    rw [if_neg hc]
    rfl
def Cov (S : SD) (x : Rc) : Prop := appl S (rtext x) = (S, 0)
def Ra (x : Rc) : Prop := K7 x ≤ 5
theorem ra_cases {x : Rc} (h : Ra x) : K7 x = 0 ∨ K7 x = 1 ∨ Rk x := by
  have := andK x.k 7 (by decide)
  unfold Ra Rk K7 at *; omega
theorem num_b {a b : Nat} (ha : a < 1000) (hb : b < 1000) (h : num a = num b) : a = b := by
  have e1 := rdInt_num 1099511627776 a (by omega) (by omega) []
  have e2 := rdInt_num 1099511627776 b (by omega) (by omega) []
  rw [h, e2] at e1
  simp at e1
  omega
theorem SI.appl {S : SD} (hS : SI S) {x : Rc} (h : Ra x) : SI (appl S (rtext x)).1 := by
  rcases ra_cases h with h | h | h
  · obtain ⟨b, _, e⟩ := appl_I h
    rw [e]
    split
    · exact hS
    · split
      · exact hS
      · exact ⟨hS.bn, hS.bag, hS.tags, hS.view⟩
  · rcases appl_U h with e | ⟨m, e⟩
    · rw [(e S).1]; exact hS
    · rw [e]; exact ⟨hS.bn, hS.bag, hS.tags, hS.view⟩
  · exact hS.act h
theorem act_again {S : SD} (hS : SI S) {x : Rc} (h : Rk x) : Cov (act x S) x := by
  unfold Cov act
  rcases act_form h with ⟨p, g, hp, hg, e⟩ | ⟨l, hl, e⟩ | ⟨l, hl, e⟩ <;> simp only [e]
  · rw [actB_again hS hp hg]
  · unfold actN; dsimp only; rw [tjoin_again hS.tags hl]
  · unfold actV; dsimp only; rw [vjoin_again hS.view hl]
theorem cov_new {S : SD} (hS : SI S) {x : Rc} (hx : Ra x) (h : (appl S (rtext x)).2 = 0) : Cov (appl S (rtext x)).1 x := by
  rcases ra_cases hx with hk | hk | hk
  · obtain ⟨b, hb, e⟩ := appl_I hk
    rw [e] at h ⊢
    by_cases h1 : b < 1
    · rw [if_pos h1] at h; cases h
    · rw [if_neg h1] at h ⊢
      by_cases h2 : S.id ≠ 0 ∧ num S.id.toNat ≠ num b
      · rw [if_pos h2] at h; cases h
      · rw [if_neg h2]
        unfold Cov
        rw [e, if_neg h1, if_neg (by rintro ⟨_, h⟩; exact h (by show num ((b : Int)).toNat = num b; rw [Int.toNat_natCast]))]
        rfl
  · rcases appl_U hk with e | ⟨m, e⟩
    · exact absurd h (e S).2
    · unfold Cov
      rw [e, e]
      unfold actU
      dsimp only
      rw [Int.max_assoc, Int.max_self]
  · exact act_again hS hk
theorem cov_keep {S : SD} (hS : SI S) {x y : Rc} (hx : Ra x) (hy : Ra y) (h : Cov S y) : Cov (appl S (rtext x)).1 y := by
  unfold Cov at *
  rcases ra_cases hy with ky | ky | ky
  · obtain ⟨b, hb, e⟩ := appl_I ky
    rw [e] at h
    by_cases h1 : b < 1
    · rw [if_pos h1] at h; cases h
    rw [if_neg h1] at h
    by_cases h2 : S.id ≠ 0 ∧ num S.id.toNat ≠ num b
    · rw [if_pos h2] at h; cases h
    rw [if_neg h2] at h
    have hid : S.id = b := by
      have := congrArg (fun p : SD × Int => p.1.id) h
      exact this.symm
    have key : ∀ S' : SD, S'.id = S.id → appl S' (rtext y) = (S', 0) := fun S' e' => by
      rw [e, if_neg h1, e', hid, if_neg (by rintro ⟨_, h⟩; exact h (by rw [Int.toNat_natCast]))]
      obtain ⟨i, u, g, t, v, o⟩ := S'
      unfold actI
      dsimp only at *
      rw [e', hid]
    rcases ra_cases hx with kx | kx | kx
    · obtain ⟨c, hc, f⟩ := appl_I kx
      refine key _ ?_
      rw [f]
      split
      · rfl
      · split
        · rfl
        · rename_i h3 h4
          have h5 : num S.id.toNat = num c := by
            by_cases h6 : num S.id.toNat = num c
            · exact h6
            · exact absurd ⟨by omega, h6⟩ h4
          rw [hid, Int.toNat_natCast] at h5
          have := num_b (by omega) (by omega) h5
          show (c : Int) = S.id
          rw [hid, this]
    · rcases appl_U kx with f | ⟨m, f⟩
      · exact key _ (by rw [(f S).1])
      · exact key _ (by rw [f]; rfl)
    · rcases act_form kx with ⟨p, g, _, _, f⟩ | ⟨l, _, f⟩ | ⟨l, _, f⟩ <;> exact key _ (by rw [f]; rfl)
  · rcases appl_U ky with e | ⟨m, e⟩
    · rw [Prod.ext_iff] at h; exact absurd h.2 (e S).2
    rw [e] at h
    have hup : max S.up m = S.up := congrArg (fun p : SD × Int => p.1.up) h
    have key : ∀ S' : SD, S.up ≤ S'.up → appl S' (rtext y) = (S', 0) := fun S' e' => by
      rw [e]
      obtain ⟨i, u, g, t, v, o⟩ := S'
      unfold actU
      dsimp only at *
      rw [show max u m = u by omega]
    rcases ra_cases hx with kx | kx | kx
    · obtain ⟨c, hc, f⟩ := appl_I kx
      refine key _ ?_
      rw [f]
      split
      · exact Int.le_refl _
      · split <;> exact Int.le_refl _
    · rcases appl_U kx with f | ⟨m', f⟩
      · exact key _ (by rw [(f S).1]; exact Int.le_refl _)
      · exact key _ (by rw [f]; show S.up ≤ max S.up m'; omega)
    · rcases act_form kx with ⟨p, g, _, _, f⟩ | ⟨l, _, f⟩ | ⟨l, _, f⟩ <;> exact key _ (by rw [f]; exact Int.le_refl _)
  · have hS' : act y S = S := congrArg Prod.fst h
    have hok : ∀ S', (appl S' (rtext y)).2 = 0 := act_ok ky
    have key : ∀ S', act y S' = S' → appl S' (rtext y) = (S', 0) := fun S' e' => Prod.ext e' (hok S')
    rcases ra_cases hx with kx | kx | kx
    · obtain ⟨c, hc, f⟩ := appl_I kx
      refine key _ ?_
      rw [f]
      split
      · exact hS'
      · split
        · exact hS'
        · have e2 : act y (actI c S) = actI c (act y S) := by
            unfold act
            rcases act_form ky with ⟨p, g, _, _, f⟩ | ⟨l, _, f⟩ | ⟨l, _, f⟩ <;> (rw [f, f]; rfl)
          show act y (actI c S) = actI c S
          rw [e2, hS']
    · rcases appl_U kx with f | ⟨m', f⟩
      · exact key _ (by rw [(f S).1]; exact hS')
      · refine key _ ?_
        rw [f]
        have e2 : act y (actU m' S) = actU m' (act y S) := by
          unfold act
          rcases act_form ky with ⟨p, g, _, _, f⟩ | ⟨l, _, f⟩ | ⟨l, _, f⟩ <;> (rw [f, f]; rfl)
        show act y (actU m' S) = actU m' S
        rw [e2, hS']
    · refine key _ ?_
      show act y (act x S) = act x S
      rw [act_swap hS ky kx, hS']
end Go.Proofs.YtdlpnhfgjficgaaGreat

namespace Go.Proofs.YtdlpnhfgjficgaaGreat
open Go.RowKit Go.Maps Go.Shelf

theorem ints_come {w : World} {a : Option Addr} {len cap : Nat} {zs : List Int}
    (h : (a = none ∧ len = 0 ∧ cap = 0 ∧ zs = []) ∨ ∃ x, a = some x ∧ len ≤ cap ∧ cap ≤ maxLen ∧ zs.length = cap ∧ (∀ i, i < zs.length → w.cell? (x.add i) = some (.int .i64 (zs.getD i 0))) ∧ ∀ n ∈ zs, (Lit.int .i64 n).wf = true) :
    Ints w (.slice a len cap) (zs.take len) ∧ ∀ x ∈ zs.take len, (Lit.int .i64 x).wf = true := by
  rcases h with ⟨rfl, rfl, rfl, rfl⟩ | ⟨x, rfl, hl, hm, hz, hc, hw⟩
  · exact ⟨Row.nil w 1, by simp⟩
  · have hlen : (zs.take len).length = len := by rw [List.length_take]; omega
    refine ⟨⟨by simp, some x, cap, by rw [hlen], by rw [hlen]; exact hl, hm, ?_⟩, fun x hx => hw x (List.mem_of_mem_take hx)⟩
    by_cases h0 : cap = 0
    · exact .inl h0
    · right
      obtain ⟨b, off, spot⟩ := x
      have c0 := hc 0 (by omega)
      have hspot : spot = none := by simpa [Addr.add] using World.cell?_spot c0
      subst hspot
      refine ⟨b, off, rfl, by simpa [Addr.add] using World.block_lt_of_cell? w _ c0, fun i hi => ?_⟩
      rw [Nat.mul_one, hlen] at hi
      have := hc i (by omega)
      rw [Addr.add_lit] at this
      rw [this]
      simp [hi, List.getD, show i < zs.length by omega]
def knA (x : Rc) : Rc := if K7 x = 6 ∨ K7 x = 7 then { x with k := 2 } else x
theorem knA_ra (x : Rc) : Ra (knA x) := by
  have h := andK x.k 7 (by decide)
  unfold knA
  split
  · show bits .and .i64 2 7 ≤ 5
    decide
  · unfold Ra K7 at *; omega
theorem knA_wf {x : Rc} (h : Rwf x) : Rwf (knA x) := by
  unfold knA
  split
  · exact h
  · exact h
theorem box_pure {w w' : World} {cs : Array Value} {T : TypeId} (h : Pure (w.alloc (.cells cs T)) w') : Pure w w' ∧ w'.heap[w.heap.size]? = some (.cells cs T (0, 0)) :=
  ⟨Pure.then_ ((Below.refl _ _).alloc (Nat.le_refl _) _) h, (h.block _ (lt_of_block (block_alloc_new w (.cells cs T)))).trans (block_alloc_new w (.cells cs T))⟩
/-- Behind an append to a row in whose block no row of the state lies. -/
theorem St2.grown {n bm : Nat} {S : SD} {w w' : World} {v v' : Value} (h : St2 n bm S w) (hb : bm = v.ownBlock.getD n) (hg : w.grownBy w' v.ownBlock) (ho : v'.ownBlock = v.ownBlock ∨ v'.ownBlock = some w.heap.size) (hn : ∀ j, v.ownBlock = some j → n ≠ j) : St2 n (v'.ownBlock.getD n) S w' := by
  obtain ⟨r, h1, h2, h3⟩ := h
  cases e : v.ownBlock with
  | none =>
    rw [e] at hg ho hb
    have hp : Pure w w' := Below.grown (Below.refl _ _) hg (Nat.le_refl _) (fun k e => by cases e)
    rcases ho with ho | ho <;> rw [ho]
    · exact ⟨r, h1.pure hp, h2.pure hp, h2.pure hp⟩
    · exact ⟨r, h1.pure hp, h2.pure hp, (h2.any (Nat.le_refl _)).pure hp⟩
  | some j =>
    rw [e] at hg ho hb
    have hbj : bm = j := hb
    subst hbj
    have hk : Kept (fun k => k = bm) w w' := Kept.grown (S := fun k => k = bm) (Kept.refl _ _) hg (fun k e _ => by cases e; rfl)
    have hne := hn bm e
    have k1 := h1.kept hk hne
    have k2 := h2.kept2 h3 hk
    rcases ho with ho | ho <;> rw [ho]
    · exact ⟨r, k1, k2, h3.kept hk⟩
    · exact ⟨r, k1, k2, (h2.any (Nat.le_refl w.heap.size)).kept2 h3 hk⟩
set_option maxRecDepth 8000 in
set_option maxHeartbeats 8000000 in
theorem again_walk (a0 : Option Addr) (len cap : Nat) (L : List Rc) (a1 : Option Addr) (len1 cap1 : Nat) (Z : List Int) (w : World) (h : RecsIn w a0 len cap L) (hz : Ints w (.slice a1 len1 cap1) Z) :
    Calls Tryz.prog 5 #[.slice a0 len cap, .slice a1 len1 cap1] w fun e w' => e = .returned (.bool true) ∧ Pure w w' := by
  obtain ⟨hlen, hrow, hwf⟩ := h
  subst hlen
  obtain rfl := hz.cell.1
  have haw := hid awake19_any
  have Htx := hid (fun k (hk : k < L.length) W => text_any (knA (L.getD k rc0)) W (knA_wf (hwf (L.getD k rc0) (by simp [List.getD, hk]))))
  unfold TxP at Htx
  have Hrow := hid (fun W (hW : Pure w W) => (show Recs W (.slice a0 L.length cap) L from Row.pure hrow hW))
  have Hz := hid (fun W (hW : Pure w W) => (show Ints W (.slice a1 Z.length cap1) Z from Row.pure hz hW))
  clear hrow hwf hz
  go_enter Tryz.func5, Tryz.ntmps5
  go_wp2_with fail
  refine (haw.out _).mono ?_
  rintro e w1 ⟨rfl, hp1⟩
  have Hp1 := hid hp1
  clear hp1
  go_wp2_with fail
  refine (snew_any _).mono ?_
  rintro e w2 ⟨rfl, hs2, hp2⟩
  have Hp2 := hid (Hp1.out.then_ hp2)
  have Hs2 := hid (show St2 w1.heap.size w1.heap.size S0 w2 from St2.zero hs2)
  obtain ⟨n, hn⟩ : ∃ n, n = w1.heap.size := ⟨_, rfl⟩
  have Hn := hid (show w.heap.size ≤ n from by rw [hn]; exact Hp1.out.size)
  have Hww := hid (show w.heap.size ≤ w2.heap.size from Hp2.out.size)
  have Hn2 := hid (show n < w2.heap.size from by rw [hn]; exact Hs2.out.lt)
  rw [← hn] at Hs2 ⊢
  clear hs2 hp2 hn
  obtain ⟨i0, hi, hz0, hz1, hz2⟩ := info_parts infoStr
  go_wp2
  go_loopw [7, 8, 9] (fun v i _ wr => ∃ (k : Nat) (A : List Rc) (S : SD), k ≤ L.length ∧ k ≤ 30 ∧ i = .int .i64 k ∧ A.length ≤ k ∧ (∀ y ∈ A, Ra y ∧ Cov S y) ∧ wr.ownsRow w2.heap.size 9 1 v A.length (svs (A.map rtext)) ∧ St2 n (v.ownBlock.getD n) S wr ∧ SOk (30 * k) S ∧ SI S ∧ Pure w wr ∧ w2.heap.size ≤ wr.heap.size) (fun _ i _ _ => 30 - (RowKit.intOf i).toNat)
  case atStart => exact ⟨0, [], S0, Nat.zero_le _, Nat.zero_le _, rfl, Nat.le_refl _, by simp, World.ownsRow_nil _ _ _ _, by simpa [Value.ownBlock] using Hs2.out, SOk.zero 0, SI.zero, Hp2.out, Nat.le_refl _⟩
  case round =>
    obtain ⟨k, A, S, hk, hk30, rfl, hAl, hA, hown, hst, hok, hsi, hpr, hw2⟩ := hrel
    have Hw2 := hid hw2
    clear hw2
    have HA := hid hA
    have Hown := hid hown
    have Hst := hid hst
    have Hok := hid hok
    have Hsi := hid hsi
    have Hpr := hid hpr
    obtain ⟨av, cv, rfl⟩ := own_shape_d hown
    obtain ⟨bm, hbm⟩ : ∃ bm, bm = (Value.slice av A.length cv).ownBlock.getD n := ⟨_, rfl⟩
    have Hbm := hid hbm
    have Hbl := hid (show bm < wr.heap.size from by
      rw [hbm]
      cases ho : (Value.slice av A.length cv).ownBlock with
      | none => exact hst.lt
      | some j => exact (hown.lt j ho).2)
    rw [← hbm] at Hst
    clear hown hA hst hok hsi hbm
    by_cases hlt : k < L.length ∧ k < 30
    · obtain ⟨hl1, hl2⟩ := hlt
      obtain ⟨b, off, rfl, hb0, x0, x1, x2, x3⟩ := Recs.get (Hrow.out wr hpr) hl1
      have hl1' : (k : Int) < (L.length : Int) := by omega
      have hl2' : (k : Int) < 30 := by omega
      have Ht := hid (Htx.out k hl1)
      have hra := knA_ra (L.getD k rc0)
      have hk7 := andK (L.getD k rc0).k 7 (by decide)
      have hcase : (K7 (L.getD k rc0) = 6 ∧ knA (L.getD k rc0) = { L.getD k rc0 with k := 2 }) ∨ (K7 (L.getD k rc0) = 7 ∧ knA (L.getD k rc0) = { L.getD k rc0 with k := 2 }) ∨ (K7 (L.getD k rc0) ≤ 5 ∧ knA (L.getD k rc0) = L.getD k rc0) := by
        unfold knA
        by_cases h6 : K7 (L.getD k rc0) = 6
        · exact .inl ⟨h6, if_pos (.inl h6)⟩
        · by_cases h7 : K7 (L.getD k rc0) = 7
          · exact .inr (.inl ⟨h7, if_pos (.inr h7)⟩)
          · refine .inr (.inr ⟨?_, if_neg (by rintro (h | h); exact h6 h; exact h7 h)⟩)
            unfold K7 at *; omega
      clear hpr hb0 hk7
      generalize L.getD k rc0 = x at *
      obtain ⟨y1, y2, y3, y4⟩ := x
      dsimp only at x0 x1 x2 x3
      unfold K7 at hcase
      dsimp only at hcase
      generalize knA (⟨y1, y2, y3, y4⟩ : Rc) = X at *
      have Hbs := hid (bsz_text X)
      have Hnew := hid (fun h => cov_new Hsi.out hra h)
      have Hkeep := hid (fun z hz => cov_keep (x := X) Hsi.out hra (HA.out z hz).1 (HA.out z hz).2)
      have Hsi2 := hid (Hsi.out.appl hra)
      have Hra := hid hra
      generalize hty : rtext X = tx at *
      have Hty := hid hty
      clear hty hra
      rcases hcase with ⟨h6, hy⟩ | ⟨h6, hy⟩ | ⟨h6, hy⟩
      case' inr.inr =>
        have h66 : (bits .and .i64 y1 7 == 6) = false := by simp; omega
        have h77 : (bits .and .i64 y1 7 == 7) = false := by simp; omega
        clear h6
      all_goals
        rw [hy] at Ht
        clear hy
        unfold rcV at Ht
        dsimp only at Ht
        go_wp2_with fail
        refine (Ht.out _).mono ?_
        rintro e w5 ⟨rfl, hp5⟩
        obtain ⟨hq5, hb5⟩ := box_pure hp5
        have Hq5 := hid hq5
        have Hb5 := hid hb5
        clear hp5 x0 x1 x2 x3 hq5 hb5
        go_wp2_with fail
        refine (sapply_any n bm (30 * k) 30 S tx w5 (Hst.out.pure Hq5.out) (Nat.lt_of_lt_of_le Hbl.out Hq5.out.size) Hok.out Hbs.out (by omega)).mono ?_
        rintro e w6 ⟨rfl, hs6, hk6⟩
        have HS6 := hid hs6
        have Hk6 := hid hk6
        have HO6 := hid (Hok.out.appl Hbs.out)
        have HR6 := hid (show w6.ownsRow w2.heap.size 9 1 (.slice av A.length cv) A.length (svs (A.map rtext)) from own_kept (own_pure Hown.out Hq5.out) hk6 (fun j hj e => by have := (Hown.out.lt j hj).1; have := Hn2.out; omega))
        have HP6 := hid (pure_box (Hpr.out.then_ Hq5.out) hk6 Hn.out)
        have Hb6 := hid ((hk6.block _ (lt_of_block Hb5.out) (by have := Hst.out.lt; omega)).trans Hb5.out)
        clear hs6 hk6
        generalize hap : appl S tx = AP at *
        have Hap := hid hap
        clear hap
        obtain ⟨S2, e2⟩ := AP
        dsimp only at HS6 HO6 Hnew Hkeep Hsi2
        by_cases he : e2 = 0
        · subst he
          have Hc2 := hid (Hnew.out rfl)
          have k0 := cell_of_block Hb6.out 0
          have k1 := cell_of_block Hb6.out 1
          have k2 := cell_of_block Hb6.out 2
          have k3 := cell_of_block Hb6.out 3
          simp only [List.getElem?_toArray, List.getElem?_cons_zero, List.getElem?_cons_succ] at k0 k1 k2 k3
          go_wp2_with fail
          refine (Ht.out _).mono ?_
          rintro e w7 ⟨rfl, hp7⟩
          have Hp7 := hid hp7
          have HP7 := hid (HP6.out.then_ hp7)
          have hsz7 : w2.heap.size ≤ w7.heap.size := Nat.le_trans (Nat.le_trans (show w2.heap.size ≤ wr.heap.size from Hw2.out) (Nat.le_trans Hq5.out.size Hk6.out.size)) hp7.size
          clear hp7 k0 k1 k2 k3
          go_wp2_with (at_builtin; refine wpList_append_own_at _ rfl _ _ 61 rfl w2.heap.size 9 i0 (.string ⟨#[]⟩) 1 16 Tryz.underlying61 hi hz0 hz1 hz2 rfl (by decide) (.slice av A.length cv) A.length (svs (A.map rtext)) rfl ((own_pure HR6.out Hp7.out).alloc _) ⟨w7.heap.size, 0, none⟩ 1 1 (svs [tx]) rfl rfl (str_lit_cells w7 tx) (svs_one _) (by unfold maxLen; omega) (by omega) (by simp; omega) ?_)
          intro v8 w8 hown8 hg8 _ hob
          have HP7b := hid ((Below.refl _ w7).alloc (Nat.le_refl w7.heap.size) (.cells #[.string (bs tx)] 9))
          have HS7 := hid ((HS6.out.pure Hp7.out).pure HP7b.out)
          have HS8 := hid (St2.grown HS7.out Hbm.out hg8 (by rw [World.size_alloc]; exact hob) (fun j hj => by have := (Hown.out.lt j hj).1; have := Hn2.out; omega))
          have HP8 := hid (Below.grown (HP7.out.then_ HP7b.out) hg8 (HP7.out.then_ HP7b.out).size (fun j hj => Nat.le_trans Hww.out (Hown.out.lt j hj).1))
          have HZ8 := hid (Nat.le_trans (Nat.le_trans hsz7 HP7b.out.size) hg8.size)
          have HO8 := hid (show w8.ownsRow w2.heap.size 9 1 v8 (A ++ [X]).length (svs ((A ++ [X]).map rtext)) from by
            rw [List.length_append, List.map_append, svs_append]
            show w8.ownsRow w2.heap.size 9 1 v8 (A.length + 1) (svs (A.map rtext) ++ svs [rtext X])
            rw [Hty.out]; exact hown8)
          clear hown8 hg8 hob hsz7
          go_wp2
          go_roundw
          case rel => exact ⟨k + 1, A ++ [X], S2, by omega, by omega, by go_num, by simp; omega, fun z hz => (List.mem_append.1 hz).elim (fun hz => ⟨(HA.out z hz).1, Hkeep.out z hz⟩) (fun e => by simp at e; subst e; exact ⟨Hra.out, Hc2.out⟩), HO8.out, HS8.out, by rw [Nat.mul_add]; exact HO6.out, Hsi2.out, HP8.out, HZ8.out⟩
          case measure => simp [RowKit.intOf]; omega
        · have he' : (e2 == 0) = false := by simpa using he
          go_wp2
          go_roundw
          case rel => exact ⟨k + 1, A, S2, by omega, by omega, by go_num, by omega, fun z hz => ⟨(HA.out z hz).1, Hkeep.out z hz⟩, HR6.out, by rw [← Hbm.out]; exact HS6.out, by rw [Nat.mul_add]; exact HO6.out, Hsi2.out, HP6.out, Nat.le_trans Hw2.out (Nat.le_trans Hq5.out.size Hk6.out.size)⟩
          case measure => simp [RowKit.intOf]; omega
    · have hxx : (¬ (k : Int) < (L.length : Int)) ∨ ((k : Int) < (L.length : Int) ∧ ¬ (k : Int) < 30) := by omega
      clear hlt
      have Hrv := hid (fun (j : Nat) (hj : (Value.slice av A.length cv).rb = some j) => (show n ≠ j from by have := (Hown.out.lt j (rb_own hj)).1; have := Hn2.out; omega))
      have Hstr := hid (show Strs wr (.slice av A.length cv) (A.map rtext) from by
        have := Row.of_own Hown.out
        unfold Strs
        rw [List.length_map]; exact this)
      have Hcov := hid (fun j (hj : j < A.length) => (show appl S (rtext (A.getD j rc0)) = (S, 0) from (HA.out (A.getD j rc0) (by simp [List.getD, hj])).2))
      have Hgt := hid (fun j (hj : j < A.length) => getD_map (l := A) hj)
      have hm30 : A.length ≤ 30 := by omega
      have Hml := hid (show (A.map rtext).length = A.length from List.length_map _)
      have Hbz := hid (fun x => bsz_text x)
      clear Hown HA Hsi hpr hAl
      generalize A.length = m at *
      rcases hxx with hx' | ⟨hx', hx2⟩
      all_goals
        go_wp2_with fail
        refine (srecs_any n S (30 * k) _ Hst.out.st Hok.out (by omega)).mono ?_
        rintro e w3 ⟨v3, rfl, ho3, hp3⟩
        obtain ⟨a3, c3, rfl⟩ := own_shape_d ho3
        have HO3 := hid (show Strs w3 (.slice a3 (srecs S).length c3) (srecs S) from Row.of_own ho3)
        have HF3 := hid (fun (j : Nat) (hj : (Value.slice a3 (srecs S).length c3).rb = some j) => (show n ≠ j from by have := (ho3.lt j (rb_own hj)).1; have := Hst.out.lt; omega))
        have HSt3 := hid (Hst.out.pure hp3)
        have HStr3 := hid (show Strs w3 (.slice av m cv) (A.map rtext) from Row.pure Hstr.out hp3)
        have HP3 := hid (Hpr.out.then_ hp3)
        have Hbl3 := hid (Nat.lt_of_lt_of_le Hbl.out hp3.size)
        clear ho3 hp3
        go_wp2
        go_loopw [11] (fun i wq => ∃ j : Nat, j ≤ Z.length ∧ j ≤ 30 ∧ i = .int .i64 j ∧ St2 n bm S wq ∧ Strs wq (.slice av m cv) (A.map rtext) ∧ Strs wq (.slice a3 (srecs S).length c3) (srecs S) ∧ Pure w wq ∧ bm < wq.heap.size) (fun i _ => 30 - (RowKit.intOf i).toNat)
        case atStart => exact ⟨0, Nat.zero_le _, Nat.zero_le _, rfl, HSt3.out, HStr3.out, HO3.out, HP3.out, Hbl3.out⟩
        case round =>
          obtain ⟨j, hj, hj30, rfl, hst, hstr, hrec, hpq, hbq⟩ := hrel
          have HST := hid hst
          have HSTR := hid hstr
          have HREC := hid hrec
          have HPQ := hid hpq
          have HBQ := hid hbq
          clear hst hstr hrec hpq hbq
          by_cases hlt : j < Z.length ∧ j < 30 ∧ 0 < m
          · obtain ⟨h1, h2, h3⟩ := hlt
            obtain ⟨-, -, -, hcz⟩ := (Hz.out wr HPQ.out).cell
            rcases hcz with ⟨e0, _⟩ | ⟨bz, oz, rfl, hbz, hcz⟩
            · rw [e0] at h1; simp at h1
            have z0 := hcz j h1
            clear hcz hbz
            generalize Z.getD j 0 = z at *
            have hl1 : (j : Int) < (Z.length : Int) := by omega
            have hl2 : (j : Int) < 30 := by omega
            have hl3 : (0 : Int) < (m : Int) := by omega
            have r1 : -(m : Int) < Int.tmod z m := by have := Int.lt_tmod_of_pos z (show (0 : Int) < (m : Int) by omega); omega
            have r2 : Int.tmod z m < m := Int.tmod_lt_of_pos z (by omega)
            obtain ⟨R, hR⟩ : ∃ R, Int.tmod z m = R := ⟨_, rfl⟩
            rw [hR] at r1 r2
            have r3 : 0 ≤ Int.tmod (R + m) m := Int.tmod_nonneg _ (by omega)
            have r4 : Int.tmod (R + m) m < m := Int.tmod_lt_of_pos _ (by omega)
            obtain ⟨q, hq⟩ : ∃ q : Nat, Int.tmod (R + m) m = q := ⟨(Int.tmod (R + m) m).toNat, by omega⟩
            rw [hq] at r3 r4
            have hqm : q < m := by omega
            have hw1 : wrap64 R = R := by unfold wrap64; omega
            have hw2 : wrap64 (R + (m : Int)) = R + (m : Int) := by unfold wrap64; omega
            have hw3 : wrap64 (q : Int) = (q : Int) := by unfold wrap64; omega
            have hm0 : ¬ (m : Int) = 0 := by omega
            obtain ⟨bq, oq, rfl, hbq, t0⟩ := Strs.get HSTR.out (k := q) (by rw [Hml.out]; exact hqm)
            rw [Hgt.out q hqm] at t0
            have Hap := hid (fun W (h1 : St2 n bm S W) (h2 : bm < W.heap.size) => (show Calls Tryz.prog 14 #[.pointer (some ⟨n, 0, none⟩), .string (bs (rtext (A.getD q rc0)))] W (fun e w' => e = .returned (.int .i64 0) ∧ St2 n bm S w' ∧ Kept (fun k => k = n) W w') from by
              have := sapply_any n bm (30 * k) 30 S _ W h1 h2 Hok.out (Hbz.out (A.getD q rc0)) (by omega)
              unfold ApP at this
              rw [Hcov.out q hqm] at this; exact this))
            generalize rtext (A.getD q rc0) = tx at *
            clear hbq h1 h2 h3 r1 r2
            go_wp2_with fail
            refine (Hap.out _ HST.out HBQ.out).mono ?_
            rintro e w4 ⟨rfl, hs4, hk4⟩
            have HS4 := hid hs4
            have HP4 := hid (pure_box HPQ.out hk4 Hn.out)
            have HR4 := hid (show Strs w4 (.slice (some ⟨bq, oq, none⟩) m cv) (A.map rtext) from Row.kept HSTR.out hk4 (fun i hi e => Hrv.out i hi e.symm))
            have HC4 := hid (show Strs w4 (.slice a3 (srecs S).length c3) (srecs S) from Row.kept HREC.out hk4 (fun i hi e => HF3.out i hi e.symm))
            have HB4 := hid (Nat.lt_of_lt_of_le HBQ.out hk4.size)
            clear hs4 hk4
            go_wp2
            go_roundw
            case rel => exact ⟨j + 1, by omega, by omega, by go_num, HS4.out, HR4.out, HC4.out, HP4.out, HB4.out⟩
            case measure => simp [RowKit.intOf]; omega
          · have hyy : (¬ (j : Int) < (Z.length : Int)) ∨ ((j : Int) < (Z.length : Int) ∧ ¬ (j : Int) < 30) ∨ ((j : Int) < (Z.length : Int) ∧ (j : Int) < 30 ∧ ¬ (0 : Int) < (m : Int)) := by omega
            clear hlt
            rcases hyy with hy1 | ⟨hy1, hy2⟩ | ⟨hy1, hy2, hy3⟩
            all_goals
              go_wp2_with fail
              refine (srecs_any n S (30 * k) _ HST.out.st Hok.out (by omega)).mono ?_
              rintro e w7 ⟨v7, rfl, ho7, hp7⟩
              obtain ⟨a7, c7, rfl⟩ := own_shape_d ho7
              have HO7 := hid (show Strs w7 (.slice a7 (srecs S).length c7) (srecs S) from Row.of_own ho7)
              have HP7 := hid (HPQ.out.then_ hp7)
              have HC7 := hid (show Strs w7 (.slice a3 (srecs S).length c3) (srecs S) from Row.pure HREC.out hp7)
              clear ho7 hp7
              go_wp2_with fail
              refine (rstexts_any _ _ (srecs S) (srecs S) w7 HO7.out HC7.out).mono ?_
              rintro e w9 ⟨rfl, hp9⟩
              rw [show decide (srecs S = srecs S) = true by simp]
              have HP9 := hid (HP7.out.then_ hp9)
              clear hp9
              go_wp2
              go_ret
              exact ⟨rfl, HP9.out⟩
end Go.Proofs.YtdlpnhfgjficgaaGreat

