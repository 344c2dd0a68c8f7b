/- ctx.Join's put. -/
import Derived.Test.YtdlpnhfgjficgaaGreatQB
import Derived.Test.YtdlpnhfgjficgaaGreatMQs
namespace Go.Proofs.YtdlpnhfgjficgaaGreat
open Go.RowKit Go.Maps Go.Shelf Go.Sort

/-- What is taken of a node of both. -/
def jtk (aB bB cl : List Dot) (x : Int) : Int × List Dot := takenL (max (cbase aB x) (cbase bB x)) (onode cl x)
def jput (aB bB cl : List Dot) (s : List Dot × List Dot) (x : Int) : List Dot × List Dot := (if 0 < (jtk aB bB cl x).1 then s.1 ++ [(x, (jtk aB bB cl x).1)] else s.1, s.2 ++ (jtk aB bB cl x).2)
theorem jput_step (aB bB cl : List Dot) : jput aB bB (dsort cl) = jstep aB bB cl := by
  funext s x
  have e : jtk aB bB (dsort cl) x = cof x (max (cbase aB x) (cbase bB x)) cl := by rw [cof_taken]; rfl
  unfold jput jstep
  rw [e]
theorem takenL_len : ∀ (l : List Dot) (u : Int), (takenL u l).2.length ≤ l.length
  | [], u => by simp [takenL]
  | d :: l, u => by
    unfold takenL
    split
    · simp
    · have := takenL_len l (max u d.2); simp; omega
theorem takenL_bd : ∀ (l : List Dot) (u M : Int), 0 ≤ u → u ≤ M → (∀ d ∈ l, d.2 ≤ M) → 0 ≤ (takenL u l).1 ∧ (takenL u l).1 ≤ M
  | [], u, M, h0, h1, _ => ⟨h0, h1⟩
  | d :: l, u, M, h0, h1, h => by
    unfold takenL
    have hd := h d (by simp)
    split
    · exact ⟨h0, h1⟩
    · exact takenL_bd l _ M (by omega) (by omega) (fun x hx => h x (List.mem_cons_of_mem _ hx))

/-- What lies in memory when put is called: both contexts, both clouds together, and the outcome (block o). -/
structure PutW (na nb nq o : Nat) (va0 va1 vb0 vb1 vq : Value) (aB bB cl : List Dot) (w6 : World) : Prop where
  a : w6.heap[na]? = some (.cells #[va0, va1] 32 (0, 0))
  b : w6.heap[nb]? = some (.cells #[vb0, vb1] 32 (0, 0))
  q : w6.heap[nq]? = some (.cells #[vq] 30 (0, 0))
  ao : na ≠ o
  bo : nb ≠ o
  qo : nq ≠ o
  o6 : o < w6.heap.size
  ra : Dots w6 va0 aB
  rb : Dots w6 vb0 bB
  rq : Dots w6 vq cl
  xa : ∀ k, va0.rb = some k → k ≠ o
  xb : ∀ k, vb0.rb = some k → k ≠ o
  xq : ∀ k, vq.rb = some k → k ≠ o
  sa : Rise aB
  sb : Rise bB
  ba : ∀ d ∈ aB, 0 ≤ d.2 ∧ d.2 ≤ 1152921504606846976
  bb : ∀ d ∈ bB, 0 ≤ d.2 ∧ d.2 ≤ 1152921504606846976
  bq : ∀ d ∈ cl, d.2 ≤ 1152921504606846976
  la : aB.length ≤ 1000
  lb : bB.length ≤ 1000
  lq : cl.length ≤ 1000
def PutS (na nb nq : Nat) (va0 va1 vb0 vb1 vq : Value) (W0 W : World) : Prop :=
  W.cell? ⟨na, 0, none⟩ = some va0 ∧ W.cell? ⟨na, 1, none⟩ = some va1 ∧ W.cell? ⟨nb, 0, none⟩ = some vb0 ∧ W.cell? ⟨nb, 1, none⟩ = some vb1 ∧ W.cell? ⟨nq, 0, none⟩ = some vq ∧ Pure W0 W
theorem PutW.st {na nb nq o : Nat} {va0 va1 vb0 vb1 vq : Value} {aB bB cl : List Dot} {w6 W0 W : World} (h : PutW na nb nq o va0 va1 vb0 vb1 vq aB bB cl w6) (hk : Kept (fun k => k = o) w6 W0) (hp : Pure W0 W) : PutS na nb nq va0 va1 vb0 vb1 vq W0 W := by
  have hK := hk.trans (hp.kept (S := fun k => k = o))
  have ea := (hK.block _ (lt_of_block h.a) h.ao).trans h.a
  have eb := (hK.block _ (lt_of_block h.b) h.bo).trans h.b
  have eq := (hK.block _ (lt_of_block h.q) h.qo).trans h.q
  exact ⟨cell_of_block ea 0, cell_of_block ea 1, cell_of_block eb 0, cell_of_block eb 1, cell_of_block eq 0, hp⟩
def PutP (o : Nat) (w6 : World) (aB bB cl : List Dot) (L0 L1 : List Dot) (x : Int) (e : Ending) (w' : World) : Prop :=
  e = .returned (.tuple #[]) ∧ ∃ y0 y1, JL o w6 y0 y1 (jput aB bB cl (L0, L1) x).1 (jput aB bB cl (L0, L1) x).2 w'

theorem apart9 {o base n : Nat} {w6 W w9 w10 : World} {y0 y1 v9 v10 : Value} {L0 L1 : List Dot} {xs : List Value} (h : w9.ownsRow base 28 2 v9 n xs) (hb : W.heap.size ≤ base) (hp : Pure w9 w10) (hL : JL o w6 y0 y1 L0 L1 W) (hr : ∀ k, v10.rb = some k → v9.rb = some k) : ∀ g, v10.rb = some g → (y0.ownBlock ≠ some g ∧ y1.ownBlock ≠ some g) ∧ g ≠ o ∧ g < w10.heap.size := by
  intro g hg
  obtain ⟨g1, g2⟩ := h.lt g (rb_own (hr g hg))
  have ho := lt_of_block hL.out
  have := hp.size
  exact ⟨⟨fun e => by have := (hL.r0.lt g e).2; omega, fun e => by have := (hL.r1.lt g e).2; omega⟩, by omega, by omega⟩
set_option maxRecDepth 8000 in
set_option maxHeartbeats 4000000 in
theorem put_any (na nb nq o : Nat) (va0 va1 vb0 vb1 vq : Value) (aB bB cl : List Dot) (w6 W0 : World) (h : PutW na nb nq o va0 va1 vb0 vb1 vq aB bB cl w6) (x : Int) (y0 y1 : Value) (L0 L1 : List Dot) (hL : JL o w6 y0 y1 L0 L1 W0) (l0 : L0.length ≤ 100000) (l1 : L1.length ≤ 999000) :
    Calls Tryz.prog 181 (#[.int .i64 x] ++ #[.pointer (some ⟨na, 0, none⟩), .pointer (some ⟨nb, 0, none⟩), .pointer (some ⟨nq, 0, none⟩), .pointer (some ⟨o, 0, none⟩)]) W0 (PutP o w6 aB bB cl L0 L1 x) := by
  obtain ⟨i0, hi, hz0, hz1, hz2⟩ := info_parts infoDot
  have hS := hid (fun W (hW : Pure W0 W) => h.st hL.k hW)
  have hst := hid (hS.out W0.drew (Below.refl _ _).drew)
  have hS2 := hid (fun W (hW : PutS na nb nq va0 va1 vb0 vb1 vq W0 W) => hW.2.2.2.2.2)
  have hrow : ∀ {v : Value} {l : List Dot}, Dots w6 v l → (∀ k, v.rb = some k → k ≠ o) → ∀ W, Pure W0 W → Dots W v l := fun hv hx W hW => Row.pure (Row.kept hv hL.k (fun k hk e => hx k hk e)) hW
  have hua := hid (fun W (hW : Pure W0 W) => upto_any va0 va1 aB x W (hrow h.ra h.xa W hW) h.sa (fun d hd => (h.ba d hd).1) (by have := h.la; omega))
  have hub := hid (fun W (hW : Pure W0 W) => upto_any vb0 vb1 bB x W (hrow h.rb h.xb W hW) h.sb (fun d hd => (h.bb d hd).1) (by have := h.lb; omega))
  have hof := hid (fun W (hW : Pure W0 W) => of_any vq cl x W (hrow h.rq h.xq W hW) (by have := h.lq; omega))
  obtain ⟨a0, a1⟩ := cbase_bd h.ba (by decide) x
  obtain ⟨b0, b1⟩ := cbase_bd h.bb (by decide) x
  have hon : ∀ d ∈ onode cl x, d.2 ≤ 1152921504606846976 := fun d hd => h.bq d (List.mem_filter.1 hd).1
  obtain ⟨M, hM⟩ : ∃ M, M = max (cbase aB x) (cbase bB x) := ⟨_, rfl⟩
  have htk := hid (fun W v u (hu : u = M) (hv : Dots W v (onode cl x)) => (taken_any u v (onode cl x) W hv (by omega) (by omega) hon).mono (fun e w' hk => (show (∃ v', e = .returned (.tuple #[.int .i64 (takenL M (onode cl x)).1, v']) ∧ Dots w' v' (takenL M (onode cl x)).2 ∧ (∀ k, v'.rb = some k → v.rb = some k) ∧ Pure W w') from by
    subst hu; obtain ⟨⟨v', h1, h2, h3⟩, h4⟩ := hk; exact ⟨v', h1, h2, h3, h4⟩)))
  have hR := hid (takenL_bd (onode cl x) M 1152921504606846976 (by omega) (by omega) hon)
  have hRl := hid (show (takenL M (onode cl x)).2.length ≤ 1000 from Nat.le_trans (takenL_len _ _) (Nat.le_trans (List.length_filter_le _ _) h.lq))
  have HL := hid hL
  have Ho := hid h.o6
  unfold PutP jput jtk
  clear hL h hrow hon
  unfold cv at *
  unfold PutS at *
  have hmx : (if cbase aB x < cbase bB x then cbase bB x else cbase aB x) = M := by omega
  rw [← hM]
  generalize cbase aB x = A at *
  generalize cbase bB x = B at *
  have hmm := hid hM
  clear hM
  generalize takenL M (onode cl x) = R at *
  obtain ⟨R0, R1⟩ := R
  dsimp only at htk hR hRl ⊢
  go_enter Tryz.func181, Tryz.ntmps181
  go_wp2_with fail
  go_region_held3 (fun W => W.cell? ⟨na, 0, none⟩ = some va0 ∧ W.cell? ⟨na, 1, none⟩ = some va1 ∧ W.cell? ⟨nb, 0, none⟩ = some vb0 ∧ W.cell? ⟨nb, 1, none⟩ = some vb1 ∧ W.cell? ⟨nq, 0, none⟩ = some vq ∧ Pure W0 W)
    (first | assumption | with_reducible exact hst.out | with_reducible exact hS.out _ (Pure.then_ (hS2.out _ (by assumption)) (by assumption)))
    ((first
      | (go_at_call 183; (with_reducible refine (hua.out _ (hS2.out _ (by assumption))).mono ?_); rintro e w7 ⟨rfl, hp7⟩)
      | (go_at_call 183; (with_reducible refine (hub.out _ (hS2.out _ (by assumption))).mono ?_); rintro e w8 ⟨rfl, hp8⟩)
      | (go_at_call 184; (with_reducible refine (hof.out _ (hS2.out _ (by assumption))).mono ?_); rintro e w9 ⟨v9, rfl, hd9, hp9⟩; obtain ⟨a9, c9, rfl⟩ := own_shape_d hd9)
      | (go_at_call 182; refine (htk.out _ _ _ (by omega) (Row.of_own hd9)).mono ?_; rintro e w10 ⟨v10, rfl, hd10, hrb10, hp10⟩; obtain ⟨a10, c10, rfl⟩ := hd10.shape)))
  all_goals
    have hW10 : Pure W0 w10 := hS2.out w10 (by assumption)
    have hb9 := hid (show W0.heap.size ≤ w9.heap.size from by have h7 := hp7.size; have h8 := hp8.size; have h9 := hp9.size; have h0 : W0.drew.heap.size = W0.heap.size := rfl; omega)
    have hap := hid (apart9 hd9 (show W0.heap.size ≤ _ from by have h7 := hp7.size; have h8 := hp8.size; have h9 := hp9.size; have h0 : W0.drew.heap.size = W0.heap.size := rfl; omega) hp10 HL.out hrb10)
    have HL10 := hid (HL.out.pure hW10)
    have HR := hid hd10
    clear hst hS hS2 hua hub hof htk hp7 hp8 hp9 hp10 hd9 hd10 hrb10 hb9 hW10
    obtain ⟨r0, r1⟩ := hR.out
    have hRl' := hRl.out
    have ho6 := Ho.out
    have h106 : w6.heap.size ≤ w10.heap.size := HL10.out.k.size
    obtain ⟨o0, o1, of0, of1⟩ := HL10.out.cells
    by_cases hpos : 0 < R0
    · have hstL : Hid (∀ (v' : Value) (w' : World), w'.ownsRow w6.heap.size 28 2 v' (L0.length + 1) (dvs L0 ++ dvs [(x, R0)]) → (w10.alloc (.cells #[.int .i64 x, .int .i64 R0] 28)).grownBy w' y0.ownBlock → FreshOr (w10.alloc (.cells #[.int .i64 x, .int .i64 R0] 28)) y0 v' →
          w'.heap[o]? = some (.cells #[y0, y1] 32 (0, 0)) ∧ JL o w6 v' y1 (L0 ++ [(x, R0)]) L1 (w'.setCell ⟨o, 0, none⟩ v') ∧ Row (w'.setCell ⟨o, 0, none⟩ v') (.slice a10 R1.length c10) R1.length 2 (dvs R1)) := fun v' w' h1 h2 h3 => by
        have hJ := HL10.out.pure (show Pure w10 (w10.alloc (.cells #[.int .i64 x, .int .i64 R0] 28)) from (Below.refl _ _).alloc (Nat.le_refl _) _)
        obtain ⟨g1, g2⟩ := JL.grow0 hJ h2 (L0' := L0 ++ [(x, R0)]) (by rw [dvs_append, List.length_append]; exact h1) h3 ho6
        refine ⟨g1, g2, Row.same HR.out fun g hg => ?_⟩
        obtain ⟨⟨p1, _⟩, p2, p3⟩ := hap.out g hg
        have e1 : (w'.setCell ⟨o, 0, none⟩ v').heap[g]? = w'.heap[g]? := (kept_set w' o 0 v').block g (Nat.lt_of_lt_of_le p3 (Nat.le_trans (by simp) h2.size)) p2
        rw [e1, h2.block g (by simp; omega) (fun e => p1 e.symm)]
        rw [Below.heap_alloc _ _ _ p3]
      have hpos' := hid hpos
      go_wp2_with (at_builtin; refine wpList_append_rows2 rfl _ _ 30 rfl w6.heap.size 28 i0 (.agg #[.int .i64 0, .int .i64 0]) 2 16 Tryz.underlying30 hi hz0 hz1 hz2 rfl (by decide) (by decide) y0 L0.length (dvs L0) rfl (World.ownsRow.alloc HL10.out.r0 _) _ 1 (dvs [(x, R0)]) rfl (dots_lit _ x R0) (dvs_one _) (by omega) (by simp; omega) ?_)
      intro v' w' hown' hg' hf'
      obtain ⟨hb', hL', hR'⟩ := hstL.out v' w' hown' hg' hf'
      have s1 : w'.cell? ⟨o, 0, none⟩ = some y0 := cell_of_block hb' 0
      have s2 : w'.frozen? ⟨o, 0, none⟩ = false := free_of_block hb' 0
      have s3 : w'.cell? ⟨o, 1, none⟩ = some y1 := cell_of_block hb' 1
      have s4 : w'.frozen? ⟨o, 1, none⟩ = false := free_of_block hb' 1
      obtain ⟨a9, c9, rfl⟩ := own_shape_d hown'
      have HL11 := hid hL'
      have HR11 := hid hR'
      clear hb' hown' hg' hf' hL' hR' hstL
      go_wp2_with (at_builtin; refine wpList_append_rows2 rfl _ _ 30 rfl w6.heap.size 28 i0 (.agg #[.int .i64 0, .int .i64 0]) 2 16 Tryz.underlying30 hi hz0 hz1 hz2 rfl (by decide) (by decide) y1 L1.length (dvs L1) rfl HL11.out.r1 _ R1.length (dvs R1) rfl HR11.out (dvs_one _) (by omega) HL11.out.k.size ?_)
      intro v12 w12 hown12 hg12 hf12
      obtain ⟨hb12, hL12⟩ := JL.grow1 HL11.out hg12 (L1' := L1 ++ R1) (by rw [dvs_append, List.length_append]; exact hown12) hf12 ho6
      have u1 : w12.cell? ⟨o, 1, none⟩ = some y1 := cell_of_block hb12 1
      have u2 : w12.frozen? ⟨o, 1, none⟩ = false := free_of_block hb12 1
      obtain ⟨a12, c12, rfl⟩ := own_shape_d hown12
      have HL12 := hid hL12
      clear hown12 hg12 hf12 hb12 hL12
      go_wp2
      go_end0
      exact ⟨rfl, _, _, HL12.out⟩
    · have hpos' := hid hpos
      have hle : R0 ≤ 0 := by omega
      go_wp2_with (at_builtin; refine wpList_append_rows2 rfl _ _ 30 rfl w6.heap.size 28 i0 (.agg #[.int .i64 0, .int .i64 0]) 2 16 Tryz.underlying30 hi hz0 hz1 hz2 rfl (by decide) (by decide) y1 L1.length (dvs L1) rfl HL10.out.r1 _ R1.length (dvs R1) rfl HR.out (dvs_one _) (by omega) HL10.out.k.size ?_)
      intro v12 w12 hown12 hg12 hf12
      obtain ⟨hb12, hL12⟩ := JL.grow1 HL10.out hg12 (L1' := L1 ++ R1) (by rw [dvs_append, List.length_append]; exact hown12) hf12 ho6
      have u1 : w12.cell? ⟨o, 1, none⟩ = some y1 := cell_of_block hb12 1
      have u2 : w12.frozen? ⟨o, 1, none⟩ = false := free_of_block hb12 1
      obtain ⟨a12, c12, rfl⟩ := own_shape_d hown12
      have HL12 := hid hL12
      clear hown12 hg12 hf12 hb12 hL12
      go_wp2
      go_end0
      exact ⟨rfl, _, _, HL12.out⟩
end Go.Proofs.YtdlpnhfgjficgaaGreat
