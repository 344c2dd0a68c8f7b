/- view: changed; Suspect, Refute, Members. -/
import Derived.Test.YtlamhobkmknnpaaPeerB
namespace Go.Proofs.Ytlamhobkmknnpaa
open Go.RowKit Go.Maps Go.Sort Go.Shelf

/-- The first of that name is changed. -/
def chg : List Pr → Int → (Pr → Pr) → List Pr
  | [], _, _ => []
  | p :: l, id, f => if p.id = id then f p :: l else p :: chg l id f
theorem chg_len (id : Int) (f : Pr → Pr) : ∀ l : List Pr, (chg l id f).length = l.length
  | [] => rfl
  | p :: l => by unfold chg; split <;> simp [chg_len id f l]
theorem chg_hit {id : Int} {f : Pr → Pr} : ∀ {l : List Pr} {k : Nat}, k < l.length → (∀ p ∈ l.take k, p.id ≠ id) → (l.getD k p0).id = id → chg l id f = l.set k (f (l.getD k p0))
  | [], k, h, _, _ => absurd h (Nat.not_lt_zero _)
  | p :: l, 0, _, _, h => by
    have : p.id = id := by simpa [List.getD] using h
    simp [chg, this, List.getD]
  | p :: l, k + 1, hk, hn, h => by
    have h1 : p.id ≠ id := hn p (by simp)
    have ih := chg_hit (f := f) (l := l) (k := k) (by simpa using hk) (fun q hq => hn q (by simp [hq])) (by simpa [List.getD] using h)
    simp only [chg, if_neg h1, ih, List.set_cons_succ]
    simp [List.getD]
theorem chg_none {id : Int} {f : Pr → Pr} : ∀ {l : List Pr}, (∀ p ∈ l, p.id ≠ id) → chg l id f = l
  | [], _ => rfl
  | p :: l, h => by
    have h1 : p.id ≠ id := h p (by simp)
    simp only [chg, if_neg h1, chg_none (fun q hq => h q (List.mem_cons_of_mem _ hq))]
theorem own_get_p {w : World} {base n cap : Nat} {a : Option Addr} {l : List Pr} (h : w.ownsRow base 28 3 (.slice a n cap) l.length (pvs l)) {k : Nat} (hk : k < l.length) :
    ∃ b cs, a = some ⟨b, 0, none⟩ ∧ base ≤ b ∧ w.heap[b]? = some (.cells cs 28 (0, 0)) ∧ w.cell? ⟨b, k * 3, none⟩ = some (.int .i64 (l.getD k p0).id) ∧ w.cell? ⟨b, k * 3 + 1, none⟩ = some (.int .i64 (l.getD k p0).inc) ∧ w.cell? ⟨b, k * 3 + 2, none⟩ = some (.int .i64 (l.getD k p0).st) := by
  obtain ⟨hl, ⟨e, h0⟩ | ⟨g, cap', cur, e, hb, hg, h1, h2, h3, h4⟩⟩ := h
  · omega
  · injection e with e1 e2 e3
    subst e1
    have hcell : ∀ i, i < l.length * 3 → w.cell? ⟨g, i, none⟩ = (pvs l)[i]? := fun i hi => by
      rw [cell_of_block hg, ← h4, List.getElem?_take, if_pos hi]; simp
    have q := pvs_get l k hk
    exact ⟨_, _, rfl, hb, hg, (hcell _ (by omega)).trans (q 0 (by omega)), (hcell _ (by omega)).trans (q 1 (by omega)), (hcell _ (by omega)).trans (q 2 (by omega))⟩
theorem own_set_p {w : World} {base b n cap : Nat} {l : List Pr} (h : w.ownsRow base 28 3 (.slice (some ⟨b, 0, none⟩) n cap) l.length (pvs l)) {k : Nat} (hk : k < l.length) (p : Pr) :
    (((w.setCell ⟨b, k * 3, none⟩ (.int .i64 p.id)).setCell ⟨b, k * 3 + 1, none⟩ (.int .i64 p.inc)).setCell ⟨b, k * 3 + 2, none⟩ (.int .i64 p.st)).ownsRow base 28 3 (.slice (some ⟨b, 0, none⟩) n cap) (l.set k p).length (pvs (l.set k p)) := by
  have e : n = l.length := by obtain ⟨a', c', e⟩ := (Row.of_own h).shape; injection e
  subst e
  have h1 := (h.stored (k * 3) (.int .i64 p.id)).1
  have h2 := (h1.stored (k * 3 + 1) (.int .i64 p.inc)).1
  have h3 := (h2.stored (k * 3 + 2) (.int .i64 p.st)).1
  rw [pvs_set p l k hk] at h3
  rw [List.length_set]; exact h3

def ChgP (w : World) (l : List Pr) (e : Ending) (w' : World) : Prop := ∃ v', e = .returned v' ∧ w'.ownsRow w.heap.size 28 3 v' l.length (pvs l) ∧ Pure w w'
set_option maxHeartbeats 2000000 in
theorem changed_any (v : Value) (l : List Pr) (id : Int) (w : World) (hr : Peers w v l) (hl : l.length ≤ 100000) (g : Nat) (f : Pr → Pr) (eg : ∀ args w, (callFunc g args).run Try.prog w = .ok (.enter g args) w)
    (hg : ∀ p ∈ l, ∀ W, Calls Try.prog g #[pv p] W fun e w' => e = .returned (pv (f p)) ∧ Pure W w') :
    Calls Try.prog 33 #[v, .int .i64 id, .func (.func g) #[] #[]] w (ChgP w (chg l id f)) := by
  obtain ⟨a, cap, rfl⟩ := hr.shape
  have Hg := hid hg
  have Hcl := hid (clonep_any _ l w hr (by omega))
  clear hr hg
  go_enter Try.func33, Try.ntmps33
  go_wp2_with fail
  refine Hcl.out.mono ?_
  rintro e w1 ⟨v1, rfl, hown, hp1⟩
  obtain ⟨a1, c1, rfl⟩ := own_shape_p hown
  have Hown := hid hown
  have Hp1 := hid hp1
  clear hown hp1 Hcl
  go_wp2
  go_loopw [8, 9, 14] (fun _ _ i wr => ∃ k : Nat, k ≤ l.length ∧ i = .int .i64 k ∧ (∀ p ∈ l.take k, p.id ≠ id) ∧ Pure w1 wr) (fun _ _ i _ => l.length - (RowKit.intOf i).toNat)
  case atStart => exact ⟨0, Nat.zero_le _, rfl, by simp, Below.refl _ _⟩
  case round =>
    obtain ⟨k, hk, rfl, hno, hp⟩ := hrel
    have Hno := hid hno
    clear hno
    by_cases hlt : k < l.length
    · obtain ⟨b, cs, rfl, hbb, hblk, d0, d1, d2⟩ := own_get_p (own_pure Hown.out hp) hlt
      have hlt' : (k : Int) < (l.length : Int) := by omega
      have hkk : (0 : Int) ≤ (k : Int) := by omega
      have Hown2 := hid (fun W (hW : Pure wr W) => own_pure (own_pure Hown.out hp) hW)
      have Hblk := hid hblk
      have Hp := hid hp
      have Hcg := hid (fun W => Hg.out (l.getD k p0) (mem_get_p hlt) W)
      have Hhit := hid (chg_hit (f := f) hlt Hno.out)
      have Hmiss : Hid ((l.getD k p0).id ≠ id → ∀ p ∈ l.take (k + 1), p.id ≠ id) := fun h p hp => by
        rw [take_succ_p l k hlt, List.mem_append, List.mem_singleton] at hp
        rcases hp with hp | rfl
        · exact Hno.out p hp
        · exact h
      clear hp hblk Hno
      generalize l.getD k p0 = z at *
      by_cases he : z.id = id
      · have Hhit2 := hid (Hhit.out he)
        have he' : (z.id == id) = true := by simpa using he
        have Hset := hid (fun W (hW : Pure wr W) => own_set_p (Hown2.out W hW) hlt (f z))
        clear he Hmiss Hhit
        generalize hf : f z = y at *
        obtain ⟨zi, zn, zs⟩ := z
        obtain ⟨yi, yn, ys⟩ := y
        have Hf := hid hf
        unfold pv at Hcg
        dsimp only at d0 d1 d2 he' Hcg Hset
        clear hf
        obtain ⟨wz, hwz⟩ : ∃ wz, wz = wr.alloc (.cells #[.int .i64 zi, .int .i64 zn, .int .i64 zs] 28) := ⟨_, rfl⟩
        have Hpz := hid (show Pure wr wz from by rw [hwz]; exact (Below.refl _ _).alloc (Nat.le_refl _) _)
        go_wp2_with fail
        rw [← hwz]
        clear hwz
        refine (Hcg.out _).mono ?_
        rintro e w2 ⟨rfl, hp2⟩
        have hp3 := Hpz.out.then_ hp2
        have hb2 := (hp3.block _ (lt_of_block Hblk.out)).trans Hblk.out
        have z0 : w2.frozen? ⟨b, k * 3, none⟩ = false := free_of_block hb2 _
        have z1 : w2.frozen? ⟨b, k * 3 + 1, none⟩ = false := free_of_block hb2 _
        have z2 : w2.frozen? ⟨b, k * 3 + 2, none⟩ = false := free_of_block hb2 _
        have e0 : w2.cell? ⟨b, k * 3, none⟩ = some (.int .i64 zi) := (hp3.cell (p := ⟨b, k * 3, none⟩) (lt_of_block Hblk.out)).trans d0
        have e1 : w2.cell? ⟨b, k * 3 + 1, none⟩ = some (.int .i64 zn) := (hp3.cell (p := ⟨b, k * 3 + 1, none⟩) (lt_of_block Hblk.out)).trans d1
        have e2 : w2.cell? ⟨b, k * 3 + 2, none⟩ = some (.int .i64 zs) := (hp3.cell (p := ⟨b, k * 3 + 2, none⟩) (lt_of_block Hblk.out)).trans d2
        have Hp3 := hid (Hp1.out.then_ (Hp.out.then_ hp3))
        have Hset2 := hid (Hset.out w2 hp3)
        clear hp2 hp3 hb2 d0 d1 d2 Hset
        go_wp2
        go_ret
        exact ⟨_, rfl, by rw [Hhit2.out]; exact Hset2.out, ((Hp3.out.setCell (by exact hbb) _).setCell (by exact hbb) _).setCell (by exact hbb) _⟩
      · have he' : (z.id == id) = false := by simpa using he
        have Hm := hid (Hmiss.out he)
        clear he Hmiss Hhit
        obtain ⟨zi, zn, zs⟩ := z
        dsimp only at d0 d1 d2 he'
        go_wp2
        go_roundw
        case rel => exact ⟨k + 1, by omega, by go_num, Hm.out, Hp.out.then_ ((Below.refl _ _).alloc (Nat.le_refl _) _)⟩
        case measure => simp [RowKit.intOf]; omega
    · have hlt' : ¬ (k : Int) < (l.length : Int) := by omega
      have Hn := hid (chg_none (f := f) (l := l) (id := id) (by have := Hno.out; rw [List.take_of_length_le (by omega)] at this; exact this))
      have Hp := hid hp
      clear hp
      go_wp2
      go_ret
      exact ⟨_, rfl, by rw [Hn.out]; exact own_pure Hown.out Hp.out, Hp1.out.then_ Hp.out⟩

theorem suspect_any (v : Value) (l : List Pr) (id : Int) (w : World) (hr : Peers w v l) (hl : l.length ≤ 100000) :
    Calls Try.prog 35 #[v, .int .i64 id] w (ChgP w (chg l id sus1)) := by
  have hc := hid (changed_any v l id w hr hl 46 sus1 (enters_of Try.func46 (by kernel_rfl) rfl) (fun p _ W => suspect1_any p W))
  obtain ⟨a, cap, rfl⟩ := hr.shape
  clear hr
  go_enter Try.func35, Try.ntmps35
  go_wp2_with fail
  refine hc.out.mono ?_
  rintro e w1 ⟨v1, rfl, hown, hp1⟩
  go_wp2
  go_ret
  exact ⟨_, rfl, hown, hp1⟩
theorem refute_any (v : Value) (l : List Pr) (id : Int) (w : World) (hr : Peers w v l) (hl : l.length ≤ 100000) (hi : ∀ p ∈ l, 0 ≤ p.inc ∧ p.inc ≤ 1073741824) :
    Calls Try.prog 26 #[v, .int .i64 id] w (ChgP w (chg l id ref1)) := by
  have hc := hid (changed_any v l id w hr hl 34 ref1 (enters_of Try.func34 (by kernel_rfl) rfl) (fun p hp W => refute1_any p W (hi p hp).1 (hi p hp).2))
  obtain ⟨a, cap, rfl⟩ := hr.shape
  clear hr
  go_enter Try.func26, Try.ntmps26
  go_wp2_with fail
  refine hc.out.mono ?_
  rintro e w1 ⟨v1, rfl, hown, hp1⟩
  go_wp2
  go_ret
  exact ⟨_, rfl, hown, hp1⟩
theorem vmembers_any (v : Value) (l : List Pr) (w : World) (hr : Peers w v l) (hl : l.length ≤ 100000) :
    Calls Try.prog 37 #[v] w fun e w' => ∃ v', e = .returned v' ∧ w'.ownsRow w.heap.size 3 1 v' (mem l).length ((mem l).map (Value.int .i64)) ∧ Pure w w' := by
  have hc := hid (members_ids v l w hr hl)
  obtain ⟨a, cap, rfl⟩ := hr.shape
  clear hr
  go_enter Try.func37, Try.ntmps37
  go_wp2_with fail
  refine hc.out.mono ?_
  rintro e w1 ⟨v1, rfl, hown, hp1⟩
  go_wp2
  go_ret
  exact ⟨_, rfl, hown, hp1⟩
end Go.Proofs.Ytlamhobkmknnpaa
