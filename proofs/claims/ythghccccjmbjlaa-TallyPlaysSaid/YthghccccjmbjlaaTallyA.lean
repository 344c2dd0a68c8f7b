import Derived.Test.YthghccccjmbjlaaDel
import Derived.Test.YthghccccjmbjlaaKeys
import Derived.Deep.RegionHeld3
import Derived.Deep.QuietTactic
import Derived.BigQuiet
namespace Go.Proofs.Ythghccccjmbjlaa
open Go.RowKit Go.Maps

/-- A tally, as data: owners, need, who has done it (in the order in which they came). -/
structure TM where
  owners : List Int
  need : Int
  yes : List Int

def TM.cells (c : TM) (vo : Value) (bm : Nat) : Array Value := #[vo, I c.need, .map (some bm)]

structure TallyAt (w : World) (b bm : Nat) (vo : Value) (c : TM) : Prop where
  blk : w.heap[b]? = some (.cells (c.cells vo bm) 40 (0, 0))
  own : Ints w vo c.owners
  sep : vo.rb ≠ some b
  sepm : vo.rb ≠ some bm
  map : IMap Value.bool w bm (tr c.yes)
  owf : AllWf c.owners
  olen : c.owners.length ≤ 1000
  ywf : AllWf c.yes
  ylen : c.yes.length ≤ 1000
  ynd : c.yes.Nodup

section
variable {w w' : World} {b bm : Nat} {vo : Value} {c : TM}
theorem TallyAt.ne (h : TallyAt w b bm vo c) : b ≠ bm := by
  obtain ⟨es, clock, hb, _⟩ := h.map
  intro e; subst e; rw [h.blk] at hb; cases hb
theorem TallyAt.kept {S : Nat → Prop} (h : TallyAt w b bm vo c) (hk : Kept S w w') (h1 : ¬ S b) (h2 : ¬ S bm) (h3 : ∀ k, vo.rb = some k → ¬ S k) : TallyAt w' b bm vo c :=
  ⟨(hk.block b (lt_of_block h.blk) h1).trans h.blk, h.own.kept hk h3, h.sep, h.sepm, h.map.kept hk h2, h.owf, h.olen, h.ywf, h.ylen, h.ynd⟩
theorem TallyAt.same (h : TallyAt w b bm vo c) (h1 : w'.heap[b]? = w.heap[b]?) (h2 : w'.heap[bm]? = w.heap[bm]?) (h3 : ∀ k, vo.rb = some k → w'.heap[k]? = w.heap[k]?) : TallyAt w' b bm vo c :=
  ⟨h1.trans h.blk, h.own.same h3, h.sep, h.sepm, h.map.same h2, h.owf, h.olen, h.ywf, h.ylen, h.ynd⟩
theorem TallyAt.pure (h : TallyAt w b bm vo c) (hk : Pure w w') : TallyAt w' b bm vo c :=
  h.kept (S := fun _ => False) hk.kept (fun h => h) (fun h => h) (fun _ _ h => h)
end

theorem pure_drewN (w : World) (n : Nat) : Pure w (w.drewN n) := ⟨rfl, rfl, rfl, Nat.le_refl _, fun _ _ => rfl⟩
theorem Pure.kept_then {w a c : World} (h : Pure w a) {S : Nat → Prop} (hk : Kept S a c) (hs : ∀ k, S k → w.heap.size ≤ k) : Pure w c :=
  Below.trans h (hk.below h.size (fun k hk' hS => by have := hs k hS; omega))
theorem len_tr (l : List Int) : (tr l).length = l.length := by simp [tr]
theorem keys_tr (l : List Int) : (tr l).map (·.1) = l := by unfold tr; rw [List.map_map]; exact List.map_id l

set_option maxHeartbeats 400000 in
theorem count_any (b bm : Nat) (vo : Value) (c : TM) (w : World) (h : TallyAt w b bm vo c) :
    Calls Try.prog 18 #[.pointer (some ⟨b, 0, none⟩)] w fun e w' => e = .returned (.int .i64 c.yes.length) ∧ w = w' := by
  have k2 : w.cell? ⟨b, 2, none⟩ = some (.map (some bm)) := cell_of_block h.blk 2
  have hlen := fun ty => h.map.len (P := Try.prog) Try.underlying38 ty
  simp only [len_tr] at hlen
  clear h
  go_enter Try.func18, Try.ntmps18
  go_wp2
  go_ret
  exact ⟨rfl, rfl⟩

/-- What Yes makes of it. -/
def TM.add (c : TM) (node : Int) : TM := if node ∈ c.yes then c else { c with yes := c.yes ++ [node] }

set_option maxHeartbeats 1000000 in
theorem yes_any (b bm : Nat) (vo : Value) (c : TM) (node : Int) (w : World) (h : TallyAt w b bm vo c) (hwf : (Lit.int .i64 node).wf = true) (hl : c.yes.length < 1000) :
    Calls Try.prog 24 #[.pointer (some ⟨b, 0, none⟩), .int .i64 node] w fun e w' => e = .returned (.bool (decide (node ∉ c.yes))) ∧ TallyAt w' b bm vo (c.add node) ∧ Kept (fun k => k = b ∨ k = bm) w w' := by
  have k2 : w.cell? ⟨b, 2, none⟩ = some (.map (some bm)) := cell_of_block h.blk 2
  have hlook := h.map.look (P := Try.prog) Try.underlying3 Try.underlying38 (zeroBool _) node hwf false
  simp only [Bool.false_eq_true, if_false, dec_mem_mlook] at hlook
  have hn := run_eql_map_nil (P := Try.prog) w 38 3 4 (some bm) Try.underlying38
  simp only [Option.isNone_some] at hn
  have H := hid h
  unfold TM.add
  by_cases hm : node ∈ c.yes
  · simp only [hm, decide_true, not_true_eq_false, decide_false, if_true] at hlook ⊢
    clear h hm
    go_enter Try.func24, Try.ntmps24
    go_wp2
    go_ret
    exact ⟨rfl, H.out, Kept.refl _ _⟩
  · simp only [hm, decide_false, not_false_eq_true, decide_true, if_false] at hlook ⊢
    have Hm := hid hm
    have Hmap := hid h.map
    clear h hm
    go_enter Try.func24, Try.ntmps24
    go_wp2_with (at_mapUpdate; refine wpList_put Value.bool _ rfl _ _ _ 38 rfl 3 4 Try.underlying3 Try.underlying38 bm (tr c.yes) rfl Hmap.out node hwf true rfl rfl ?_; intro w1 hmap1 hg1 hs1; have Hmap1 := hid hmap1; have Hg1 := hid hg1; clear hmap1 hg1 hs1)
    go_ret
    have hb := lt_of_block H.out.blk
    have hne := H.out.ne
    refine ⟨rfl, ⟨(Hg1.out.block b hb (fun e => hne (by simpa using e))).trans H.out.blk, ?_, H.out.sep, H.out.sepm, ?_, H.out.owf, H.out.olen, ?_, by simp; omega, ?_⟩, (Kept.refl _ _).grown Hg1.out (fun k hk _ => .inr (by simpa using hk.symm))⟩
    · exact Row.kept H.out.own (S := fun k => k = bm) ((Kept.refl _ _).grown Hg1.out (fun k e _ => by simpa using e.symm)) (fun k hk e => H.out.sepm (by rw [hk, e]))
    · have := Hmap1.out; rw [mput_tr _ _ Hm.out] at this; exact this
    · intro x hx; rcases List.mem_append.1 hx with hx | hx
      · exact H.out.ywf x hx
      · simp at hx; subst hx; exact hwf
    · refine List.nodup_append.2 ⟨H.out.ynd, by simp, fun a ha b' hb' e => ?_⟩
      simp at hb'; subst hb'; subst e; exact Hm.out ha

/-- The owners that have not. -/
def TM.missing (c : TM) : List Int := c.owners.filter fun x => !decide (x ∈ c.yes)
def TM.others (c : TM) : List Int := (srt c.yes).filter fun x => !decide (x ∈ c.owners)

set_option maxHeartbeats 1000000 in
theorem missing1_any (b bm bt : Nat) (vo : Value) (c : TM) (node : Int) (w : World) (h : TallyAt w b bm vo c) (hwf : (Lit.int .i64 node).wf = true) (ht : w.heap[bt]? = some (.cells #[.pointer (some ⟨b, 0, none⟩)] 25 (0, 0))) :
    Calls Try.prog 31 #[.int .i64 node, .pointer (some ⟨bt, 0, none⟩)] w fun e w' => e = .returned (.bool (decide (node ∈ c.yes))) ∧ ∃ q, w' = w.drewN q := by
  have k1 : w.cell? ⟨bt, 0, none⟩ = some (.pointer (some ⟨b, 0, none⟩)) := cell_of_block ht 0
  have k2 : w.cell? ⟨b, 2, none⟩ = some (.map (some bm)) := cell_of_block h.blk 2
  have hlook := h.map.look (P := Try.prog) Try.underlying3 Try.underlying38 (zeroBool _) node hwf false
  simp only [Bool.false_eq_true, if_false, dec_mem_mlook] at hlook
  clear h ht
  generalize decide (node ∈ c.yes) = d at *
  go_enter Try.func31, Try.ntmps31
  go_wp2
  go_ret
  exact ⟨rfl, 0, rfl⟩

set_option maxHeartbeats 1000000 in
theorem others1_any (b bm bt : Nat) (vo : Value) (c : TM) (node : Int) (w : World) (h : TallyAt w b bm vo c) (ht : w.heap[bt]? = some (.cells #[.pointer (some ⟨b, 0, none⟩)] 25 (0, 0))) :
    Calls Try.prog 33 #[.int .i64 node, .pointer (some ⟨bt, 0, none⟩)] w fun e w' => e = .returned (.bool (decide (node ∈ c.owners))) ∧ ∃ q, w' = w.drewN q := by
  have k1 : w.cell? ⟨bt, 0, none⟩ = some (.pointer (some ⟨b, 0, none⟩)) := cell_of_block ht 0
  have k0 : w.cell? ⟨b, 0, none⟩ = some vo := cell_of_block h.blk 0
  have hc := hid (contains_any vo c.owners node w h.own)
  obtain ⟨a, cap, rfl⟩ := h.own.shape
  clear h ht
  generalize decide (node ∈ c.owners) = d at *
  go_enter Try.func33, Try.ntmps33
  go_wp2_with (go_at_call 27; refine hc.out.mono ?_; rintro e w' ⟨rfl, rfl⟩)
  go_ret
  exact ⟨rfl, 0, rfl⟩

theorem box_new (w : World) (v : Value) (T : TypeId) : (w.alloc (.cells #[v] T)).heap[w.heap.size]? = some (.cells #[v] T (0, 0)) := block_alloc_new _ _

set_option maxHeartbeats 1000000 in
theorem missing_any (b bm : Nat) (vo : Value) (c : TM) (w : World) (h : TallyAt w b bm vo c) :
    Calls Try.prog 13 #[.pointer (some ⟨b, 0, none⟩)] w fun e w' => ∃ v', e = .returned v' ∧ w'.ownsRow w.heap.size 3 1 v' c.missing.length (c.missing.map (Value.int .i64)) ∧ Pure w w' := by
  have hmf : ∀ (fn : Fn) (first cap : Array Value) (w : World), (Instr.makeFunc fn first cap).run Try.prog w = .ok (.func fn first cap) w := fun _ _ _ _ => rfl
  obtain ⟨W, hW⟩ : ∃ W, W = w.alloc (.cells #[.pointer (some ⟨b, 0, none⟩)] 25) := ⟨_, rfl⟩
  have hP : Pure w W := by rw [hW]; exact (Below.refl _ _).alloc (Nat.le_refl _) _
  have hA := h.pure hP
  have ht : W.heap[w.heap.size]? = some (.cells #[.pointer (some ⟨b, 0, none⟩)] 25 (0, 0)) := by rw [hW]; exact box_new _ _ _
  have g0 : W.cell? ⟨b, 0, none⟩ = some vo := cell_of_block hA.blk 0
  have g1 : W.cell? ⟨w.heap.size, 0, none⟩ = some (.pointer (some ⟨b, 0, none⟩)) := cell_of_block ht 0
  have hcl := hid (clone_any vo c.owners W hA.own (by have := h.olen; omega))
  have hsz : W.heap.size = w.heap.size + 1 := by rw [hW]; simp
  have hbw := lt_of_block h.blk
  have hbm := h.map.lt
  have hvo : ∀ k, vo.rb = some k → k < w.heap.size := Row.lt h.own
  obtain ⟨a, cap, rfl⟩ := h.own.shape
  have H := hid hA
  have Ht := hid ht
  have HP := hid hP
  have Hsz := hid hsz
  have Hl := hid h.olen
  have Hw := hid h.owf
  rw [hW] at g0 g1
  have HW := hid hW
  clear h hA ht hP hsz hW
  go_enter Try.func13, Try.ntmps13
  go_wp2_with fail
  rw [← HW.out]
  refine hcl.out.mono ?_
  rintro e w1 ⟨v1, rfl, hown1, hp1⟩
  have hsz := Hsz.out
  have hdel := del_own W.heap.size v1 c.owners w1 hown1 (by have := Hl.out; omega) Hw.out (fun x => decide (x ∈ c.yes)) 31 #[.pointer (some ⟨w.heap.size, 0, none⟩)] (enters_of Try.func31 (by kernel_rfl) rfl)
    (fun W2 x hx hk => by
      have hsame : ∀ k, k < w.heap.size + 1 → W2.heap[k]? = W.heap[k]? := fun k hk' => (hk k (by have := hp1.size; omega) (fun e => by have := (hown1.lt k e.symm).1; omega)).trans (hp1.block k (by omega))
      exact missing1_any b bm w.heap.size _ c x W2 (H.out.same (hsame b (by omega)) (hsame bm (by omega)) (fun k hk' => hsame k (by have := hvo k hk'; omega))) hx ((hsame _ (by omega)).trans Ht.out))
  have Hdel := hid hdel
  have HP1 := hid (HP.out.then_ hp1)
  have Hown1 := hid hown1
  obtain ⟨a1, cap1, rfl⟩ := (Row.of_own hown1).shape
  clear hdel hp1 hown1 g0 g1
  go_wp2_with fail
  refine Hdel.out.mono ?_
  rintro e w2 ⟨v2, rfl, hown2, hg2⟩
  obtain ⟨a2, cap2, rfl⟩ := (Row.of_own hown2).shape
  go_wp2
  go_ret
  refine ⟨_, rfl, own_mono hown2 (by omega), HP1.out.grown hg2 HP1.out.size (fun k hk => by have := (Hown1.out.lt k hk).1; omega)⟩
end Go.Proofs.Ythghccccjmbjlaa
