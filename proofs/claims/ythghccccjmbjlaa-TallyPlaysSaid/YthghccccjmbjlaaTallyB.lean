import Derived.Test.YthghccccjmbjlaaTallyA
namespace Go.Proofs.Ythghccccjmbjlaa
open Go.RowKit Go.Maps

set_option maxHeartbeats 400000 in
theorem majority (n : Int) (w : World) (h0 : 0 ≤ n) (h1 : n ≤ 1000000) :
    Calls Try.prog 36 #[.int .i64 n] w fun e w' => e = .returned (.int .i64 (n / 2 + 1)) ∧ w = w' := by
  go_enter Try.func36, Try.ntmps36
  go_wp2
  go_ret
  exact ⟨ret_int (by rw [show max n 0 = n by omega]), rfl⟩

set_option maxHeartbeats 1000000 in
theorem all_any (b bm : Nat) (vo : Value) (c : TM) (w : World) (h : TallyAt w b bm vo c) :
    Calls Try.prog 17 #[.pointer (some ⟨b, 0, none⟩)] w fun e w' => ∃ v', e = .returned v' ∧ w'.ownsRow w.heap.size 3 1 v' (srt c.yes).length ((srt c.yes).map (Value.int .i64)) ∧ Pure w w' := by
  have k2 : w.cell? ⟨b, 2, none⟩ = some (.map (some bm)) := cell_of_block h.blk 2
  have hk := hid (keys_call (some bm) w)
  have hs := sorted_call Value.bool bm (tr c.yes) w h.map (by rw [len_tr]; have := h.ylen; omega)
  rw [keys_tr] at hs
  have Hs := hid hs
  clear h hs
  go_enter Try.func17, Try.ntmps17
  go_wp2_with fail
  refine hk.out.mono ?_
  rintro e w1 ⟨rfl, rfl⟩
  go_wp2_with fail
  refine Hs.out.mono ?_
  rintro e w2 ⟨v2, rfl, hown2, hp2⟩
  obtain ⟨a2, cap2, rfl⟩ := (Row.of_own hown2).shape
  go_wp2
  go_ret
  exact ⟨_, rfl, hown2, hp2⟩

set_option maxHeartbeats 1000000 in
theorem others_any (b bm : Nat) (vo : Value) (c : TM) (w : World) (h : TallyAt w b bm vo c) :
    Calls Try.prog 15 #[.pointer (some ⟨b, 0, none⟩)] w fun e w' => ∃ v', e = .returned v' ∧ w'.ownsRow w.heap.size 3 1 v' c.others.length (c.others.map (Value.int .i64)) ∧ Pure w w' := by
  have hmf : ∀ (fn : Fn) (first cap : Array Value) (w : World), (Instr.makeFunc fn first cap).run Try.prog w = .ok (.func fn first cap) w := fun _ _ _ _ => rfl
  obtain ⟨W, hW⟩ : ∃ W, W = w.alloc (.cells #[.pointer (some ⟨b, 0, none⟩)] 25) := ⟨_, rfl⟩
  have hP : Pure w W := by rw [hW]; exact (Below.refl _ _).alloc (Nat.le_refl _) _
  have hA := h.pure hP
  have ht : W.heap[w.heap.size]? = some (.cells #[.pointer (some ⟨b, 0, none⟩)] 25 (0, 0)) := by rw [hW]; exact box_new _ _ _
  have g1 : W.cell? ⟨w.heap.size, 0, none⟩ = some (.pointer (some ⟨b, 0, none⟩)) := cell_of_block ht 0
  have hal := hid (all_any b bm vo c W hA)
  have hsz : W.heap.size = w.heap.size + 1 := by rw [hW]; simp
  have hbw := lt_of_block h.blk
  have hbm := h.map.lt
  have hvo : ∀ k, vo.rb = some k → k < w.heap.size := Row.lt h.own
  have H := hid hA
  have Ht := hid ht
  have HP := hid hP
  have Hsz := hid hsz
  have Hl := hid h.ylen
  have Hw := hid h.ywf
  rw [hW] at g1
  have HW := hid hW
  clear h hA ht hP hsz hW
  go_enter Try.func15, Try.ntmps15
  go_wp2_with fail
  rw [← HW.out]
  refine hal.out.mono ?_
  rintro e w1 ⟨v1, rfl, hown1, hp1⟩
  have hsz := Hsz.out
  have hwf1 : AllWf (srt c.yes) := fun x hx => Hw.out x (by unfold srt at hx; simpa using hx)
  have hdel := del_own W.heap.size v1 (srt c.yes) w1 hown1 (by rw [srt_len]; have := Hl.out; omega) hwf1 (fun x => decide (x ∈ c.owners)) 33 #[.pointer (some ⟨w.heap.size, 0, none⟩)] (enters_of Try.func33 (by kernel_rfl) rfl)
    (fun W2 x hx hk => by
      have hsame : ∀ k, k < w.heap.size + 1 → W2.heap[k]? = W.heap[k]? := fun k hk' => (hk k (by have := hp1.size; omega) (fun e => by have := (hown1.lt k e.symm).1; omega)).trans (hp1.block k (by omega))
      exact others1_any b bm w.heap.size _ c x W2 (H.out.same (hsame b (by omega)) (hsame bm (by omega)) (fun k hk' => hsame k (by have := hvo k hk'; omega))) ((hsame _ (by omega)).trans Ht.out))
  have Hdel := hid hdel
  have HP1 := hid (HP.out.then_ hp1)
  have Hown1 := hid hown1
  obtain ⟨a1, cap1, rfl⟩ := (Row.of_own hown1).shape
  clear hdel hp1 hown1 g1
  go_wp2_with fail
  refine Hdel.out.mono ?_
  rintro e w2 ⟨v2, rfl, hown2, hg2⟩
  obtain ⟨a2, cap2, rfl⟩ := (Row.of_own hown2).shape
  go_wp2
  go_ret
  refine ⟨_, rfl, own_mono hown2 (by omega), HP1.out.grown hg2 HP1.out.size (fun k hk => by have := (Hown1.out.lt k hk).1; omega)⟩

/-- What holds in the world of a region that asks the tally. -/
def RS (b bm : Nat) (vo : Value) (c : TM) (w0 W : World) : Prop := TallyAt W b bm vo c ∧ Pure w0 W
theorem RS.cell {b bm : Nat} {vo : Value} {c : TM} {w0 W : World} (h : RS b bm vo c w0 W) : W.cell? ⟨b, 0, none⟩ = some vo ∧ W.cell? ⟨b, 1, none⟩ = some (.int .i64 c.need) ∧ RS b bm vo c w0 W := ⟨cell_of_block h.1.blk 0, cell_of_block h.1.blk 1, h⟩
theorem RS.at_ {b bm : Nat} {vo : Value} {c : TM} {w0 W : World} (h : W.cell? ⟨b, 0, none⟩ = some vo ∧ W.cell? ⟨b, 1, none⟩ = some (.int .i64 c.need) ∧ RS b bm vo c w0 W) : TallyAt W b bm vo c := h.2.2.1
theorem RS.start {b bm : Nat} {vo : Value} {c : TM} {w : World} (h : TallyAt w b bm vo c) : RS b bm vo c w w.drew := ⟨h.pure (Below.refl _ _).drew, (Below.refl _ _).drew⟩
theorem RS.pure {b bm : Nat} {vo : Value} {c : TM} {w0 W W' : World} (hp : Pure W W') (h : W.cell? ⟨b, 0, none⟩ = some vo ∧ W.cell? ⟨b, 1, none⟩ = some (.int .i64 c.need) ∧ RS b bm vo c w0 W) : RS b bm vo c w0 W' := ⟨h.2.2.1.pure hp, h.2.2.2.then_ hp⟩

def TM.owned (c : TM) : Int := (c.owners.length : Int) - (c.missing.length : Int)
theorem TM.missing_le (c : TM) : c.missing.length ≤ c.owners.length := List.length_filter_le _ _

set_option maxHeartbeats 1000000 in
theorem owned_any (b bm : Nat) (vo : Value) (c : TM) (w : World) (h : TallyAt w b bm vo c) :
    Calls Try.prog 19 #[.pointer (some ⟨b, 0, none⟩)] w fun e w' => e = .returned (.int .i64 c.owned) ∧ Pure w w' := by
  have HRS := hid (RS.start h)
  have hle := c.missing_le
  have hol := h.olen
  have hwrap : IntKind.i64.wrap ((c.owners.length : Int) - (c.missing.length : Int)) = (c.owners.length : Int) - (c.missing.length : Int) := IntWalk.i64_in _ (by omega)
  unfold TM.owned
  obtain ⟨a, cap, rfl⟩ := h.own.shape
  clear h
  go_enter Try.func19, Try.ntmps19
  go_wp2_with fail
  go_region_held3 (fun W => W.cell? ⟨b, 0, none⟩ = some (.slice a c.owners.length cap) ∧ W.cell? ⟨b, 1, none⟩ = some (.int .i64 c.need) ∧ RS b bm (.slice a c.owners.length cap) c w W)
    (first | exact HRS.out.cell | exact (RS.pure hp3 (by assumption)).cell)
    (first | (go_at_call 13; refine (missing_any b bm (.slice a c.owners.length cap) c _ ?_).mono ?_; exact RS.at_ (w0 := w) (by assumption); rintro e w3 ⟨v3, rfl, hown3, hp3⟩; obtain ⟨a3, cap3, rfl⟩ := (Row.of_own hown3).shape))
  have hx : RS b bm (.slice a c.owners.length cap) c w w3 := (show w3.cell? ⟨b, 0, none⟩ = some (.slice a c.owners.length cap) ∧ w3.cell? ⟨b, 1, none⟩ = some (.int .i64 c.need) ∧ RS b bm (.slice a c.owners.length cap) c w w3 from by assumption).2.2
  have Hx := hid hx.2
  clear hx hown3 hp3
  go_wp2
  go_ret
  exact ⟨rfl, Hx.out⟩

set_option maxHeartbeats 1000000 in
theorem done_any (b bm : Nat) (vo : Value) (c : TM) (w : World) (h : TallyAt w b bm vo c) :
    Calls Try.prog 21 #[.pointer (some ⟨b, 0, none⟩)] w fun e w' => e = .returned (.bool (decide (c.need ≤ (c.yes.length : Int)))) ∧ Pure w w' := by
  have HRS := hid (RS.start h)
  clear h
  go_enter Try.func21, Try.ntmps21
  go_wp2_with fail
  go_region_held3 (fun W => W.cell? ⟨b, 0, none⟩ = some vo ∧ W.cell? ⟨b, 1, none⟩ = some (.int .i64 c.need) ∧ RS b bm vo c w W)
    (first | exact HRS.out.cell | assumption)
    (first | (go_at_call 18; refine (count_any b bm vo c _ ?_).mono ?_; exact RS.at_ (w0 := w) (by assumption); rintro e w3 ⟨rfl, rfl⟩))
  have Hx := hid (HRS.out.2)
  go_wp2
  go_ret
  exact ⟨rfl, Hx.out⟩

set_option maxHeartbeats 1000000 in
theorem most_any (b bm : Nat) (vo : Value) (c : TM) (w : World) (h : TallyAt w b bm vo c) :
    Calls Try.prog 22 #[.pointer (some ⟨b, 0, none⟩)] w fun e w' => e = .returned (.bool (decide ((c.owners.length : Int) / 2 + 1 ≤ c.owned))) ∧ Pure w w' := by
  have HRS := hid (RS.start h)
  have hol := h.olen
  obtain ⟨a, cap, rfl⟩ := h.own.shape
  clear h
  go_enter Try.func22, Try.ntmps22
  go_wp2_with fail
  go_region_held3 (fun W => W.cell? ⟨b, 0, none⟩ = some (.slice a c.owners.length cap) ∧ W.cell? ⟨b, 1, none⟩ = some (.int .i64 c.need) ∧ RS b bm (.slice a c.owners.length cap) c w W)
    (first | exact HRS.out.cell | assumption | exact (RS.pure hp3 (by assumption)).cell)
    (first
      | (go_at_call 19; refine (owned_any b bm (.slice a c.owners.length cap) c _ ?_).mono ?_; exact RS.at_ (w0 := w) (by assumption); rintro e w3 ⟨rfl, hp3⟩)
      | (go_at_call 36; refine (majority _ _ (by omega) (by omega)).mono ?_; rintro e w4 ⟨rfl, rfl⟩))
  have hx : RS b bm (.slice a c.owners.length cap) c w w3 := (show w3.cell? ⟨b, 0, none⟩ = some (.slice a c.owners.length cap) ∧ w3.cell? ⟨b, 1, none⟩ = some (.int .i64 c.need) ∧ RS b bm (.slice a c.owners.length cap) c w w3 from by assumption).2.2
  have Hx := hid hx.2
  clear hx hp3
  go_wp2
  go_ret
  exact ⟨rfl, Hx.out⟩
end Go.Proofs.Ythghccccjmbjlaa
