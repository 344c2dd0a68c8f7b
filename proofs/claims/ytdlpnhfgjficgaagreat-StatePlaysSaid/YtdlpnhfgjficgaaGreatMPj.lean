import Derived.Test.YtdlpnhfgjficgaaGreatMOne
namespace Go.Proofs.YtdlpnhfgjficgaaGreat
section
set_option maxHeartbeats 2000000
set_option maxRecDepth 8000
open Go.RowKit Go.Maps Go.Shelf Go.Sort
structure FAt (l:List Dot) (d:Dot) (k:Nat):Prop where
 le:k≤l.length
 low:∀j,j<k→DL (l.getD j (0,0)) d
 high:∀j,k≤j→j<l.length→¬DL (l.getD j (0,0)) d
theorem rise_get {l:List Dot} (h:Rise l) {i j:Nat} (hi:i<j) (hj:j<l.length):DL (l.getD i (0,0)) (l.getD j (0,0)):=by
 have:=List.pairwise_iff_getElem.1 h i j oe hj hi
 have hi' : i<l.length:=by omega
 simpa [List.getD,hi',hj] using this
theorem FAt.mem {l:List Dot} {d:Dot} {k:Nat} (h:FAt l d k) (hk:k<l.length) (hr:Rise l):decide (d ∈ l)=decide (l.getD k (0,0)=d):=by
 by_cases e:l.getD k (0,0)=d
 ·rw [decide_eq_true e,decide_eq_true];rw [←e];exact getD_mem_d hk
 ·rw [decide_eq_false e,decide_eq_false]
  intro hm
  obtain ⟨j,hj,rfl⟩:=List.getElem_of_mem hm
  have ej:l.getD j (0,0)=l[j]:=by simp [List.getD,hj]
  rw [←ej] at e h
  rcases Nat.lt_trichotomy j k with h1|h1|h1
  ·exact DL.irrefl _ (h.low j h1)
  ·exact e (by rw [h1])
  ·exact h.high k (Nat.le_refl _) hk (rise_get hr h1 hj)
theorem FAt.none {l:List Dot} {d:Dot} {k:Nat} (h:FAt l d k) (hk:¬k<l.length):decide (d ∈ l)=false:=by
 rw [decide_eq_false]
 intro hm
 obtain ⟨j,hj,rfl⟩:=List.getElem_of_mem hm
 have ej:l.getD j (0,0)=l[j]:=by simp [List.getD,hj]
 have:=h.low j oe
 rw [ej] at this
 exact DL.irrefl _ this
structure FI (l:List Dot) (d:Dot) (lo hi:Nat):Prop where
 le:lo≤hi
 len:hi≤l.length
 low:∀j,j<lo→DL (l.getD j (0,0)) d
 high:∀j,hi≤j→j<l.length→¬DL (l.getD j (0,0)) d
theorem FI.up {l:List Dot} {d:Dot} {lo hi m:Nat} (h:FI l d lo hi) (hr:Rise l) (hm:m<hi) (e:dlt (l.getD m (0,0)) d=true):FI l d (m+1) hi :=
 ⟨by omega,h.len,fun j hj=>by
  rw [dlt_iff] at e
  rcases Nat.lt_or_ge j m with h1|h1
  ·exact (rise_get hr h1 (by have:=h.len;omega)).trans e
  ·obtain rfl:j=m:=by omega
   exact e,h.high⟩
theorem FI.down {l:List Dot} {d:Dot} {lo hi m:Nat} (h:FI l d lo hi) (hr:Rise l) (hl:lo≤m) (hm:m<hi) (e:dlt (l.getD m (0,0)) d=false):FI l d lo m :=
 ⟨hl,by have:=h.len;omega,h.low,fun j hj hjl hd=>by
  rw [dlt_false] at e
  rcases Nat.lt_or_ge m j with h1|h1
  ·exact e ((rise_get hr h1 hjl).trans hd)
  ·obtain rfl:j=m:=by omega
   exact e hd⟩
theorem FI.at_ {l:List Dot} {d:Dot} {lo hi:Nat} (h:FI l d lo hi) (e:¬lo<hi):FAt l d lo :=
 have:=h.le
 ⟨Nat.le_trans h.le h.len,h.low,fun j hj hl=>h.high j oe hl⟩
def FdP (l:List Dot) (d:Dot) (w:World) (e:Ending) (w' : World):Prop:=∃k,FAt l d k∧e=.returned (.tuple #[.int .i64 (k:Nat),.bool (decide (d ∈ l))])∧Pure w w'
theorem find_any (v:Value) (l:List Dot) (d:Dot) (w:World) (hr:Dots w v l) (hs:Rise l) (hl:l.length≤100000) :
 Calls Tryz.prog 186 #[v,dv d] w (FdP l d w):=by
 obtain ⟨a,cap,rfl⟩:=hr.shape
 have Hr:=hid hr
 have Hs:=hid hs
 have hless:=hid (fun z W=>less_any z d W)
 have hmem:=hid (fun k (h:FAt l d k) (hk:k<l.length)=>h.mem hk hs)
 have hnone:=hid (fun k (h:FAt l d k) (hk:¬k<l.length)=>h.none hk)
 have hfin:Hid (∀(k:Nat) (W:World),FAt l d k→Pure w W→FdP l d w (.returned (.tuple #[.int .i64 (k:Nat),.bool (decide (d ∈ l))])) W):=fun k W h hW=>⟨k,h,rfl,hW⟩
 have heq:=dot_eqIn
 have hst:=qh (FI l d 0 l.length) (⟨Nat.zero_le _,Nat.le_refl _,fun j hj=>absurd hj (Nat.not_lt_zero _),fun j h1 h2=>by omega⟩)
 have Hup:=hid (fun lo hi m (h:FI l d lo hi)=>h.up (m:=m) hs)
 have Hdn:=hid (fun lo hi m (h:FI l d lo hi)=>h.down (m:=m) hs)
 have Hat:=hid (fun lo hi (h:FI l d lo hi)=>h.at_)
 obtain ⟨wz,hwz⟩:=qe (w.alloc (.cells #[.int .i64 d.1,.int .i64 d.2] 28))
 have Hpz:=qh (Pure w wz) (by rw [hwz];exact qp)
 have k0:wz.cell? ⟨w.heap.size,0,none⟩=some (.int .i64 d.1):=by rw [hwz,World.cell?_alloc_new];simp
 have k1:wz.cell? ⟨w.heap.size,1,none⟩=some (.int .i64 d.2):=by rw [hwz,World.cell?_alloc_new];simp
 have hkb:w.heap.size<wz.heap.size:=by rw [hwz];simp
 clear hr hs
 obtain ⟨x,y⟩:=d
 unfold dv at *
 dsimp only at *
 go_enter Tryz.func186,Tryz.ntmps186
 go_wp2_with fail
 rw [←hwz]
 clear hwz
 go_step3
 go_wp2_with fail
 go_step3
 go_wp2_with fail
 go_loopw [6,7,8] (fun s6 s7 _ wr=>∃lo hi:Nat,s6=.int .i64 lo∧s7=.int .i64 hi∧FI l (x,y) lo hi∧Pure wz wr) (fun s6 s7 _ _=>(RowKit.intOf s7).toNat-(RowKit.intOf s6).toNat)
 case atStart=>exact ⟨0,l.length,rfl,rfl,hst.out,Below.refl _ _⟩
 case round =>
  obtain ⟨lo,hi,rfl,rfl,hI,hp⟩:=hrel
  have hle:=hI.le
  have hlen:=hI.len
  have HI:=hid hI
  have Hp:=hid hp
  have g0:wr.cell? ⟨w.heap.size,0,none⟩=some (.int .i64 x):=(hp.cell (p:=⟨w.heap.size,0,none⟩) hkb).trans k0
  have g1:wr.cell? ⟨w.heap.size,1,none⟩=some (.int .i64 y):=(hp.cell (p:=⟨w.heap.size,1,none⟩) hkb).trans k1
  by_cases hlt:lo<hi
  ·have hge:¬(hi:Int)≤(lo:Int):=by omega
   have hm1:(lo+hi) / 2<hi:=by omega
   have hm2:lo≤(lo+hi) / 2:=by omega
   have hsum:IntKind.i64.wrap ((lo:Int)+(hi:Int))=(lo:Int)+(hi:Int):=IntWalk.i64_in _ oe
   have hdiv:((lo:Int)+(hi:Int)).tdiv 2=(((lo+hi) / 2:Nat):Int):=by rw [Int.tdiv_eq_ediv_of_nonneg oe];omega
   have HU:=hid (Hup.out lo hi ((lo+hi) / 2) HI.out hm1)
   have HD:=hid (Hdn.out lo hi ((lo+hi) / 2) HI.out hm2 hm1)
   generalize (lo+hi) / 2=m at *
   have hwm:IntKind.i64.wrap (m:Int)=(m:Int):=IntWalk.i64_in _ oe
   obtain ⟨b,off,rfl,hb,x0,x1⟩:=Dots.get (Row.pure Hr.out (Hpz.out.then_ hp):Dots wr _ l) (k:=m) oe
   have hml:(m:Int)<(l.length:Int):=by omega
   clear hI hp hb k0 k1
   have Hl2:=hid (fun W=>hless.out (l.getD m (0,0)) W)
   generalize l.getD m (0,0)=z at *
   obtain ⟨z1,z2⟩:=z
   dsimp only at x0 x1 Hl2
   have hkeep:=hid (fun W W' (hW:Pure W W') (h:W.cell? ⟨b,off+m*2,none⟩=some (.int .i64 z1)∧W.cell? ⟨b,off+m*2+1,none⟩=some (.int .i64 z2)∧W.cell? ⟨w.heap.size,0,none⟩=some (.int .i64 x)∧W.cell? ⟨w.heap.size,1,none⟩=some (.int .i64 y)∧Pure wz W) =>
    (show W'.cell? ⟨b,off+m*2,none⟩=some (.int .i64 z1)∧W'.cell? ⟨b,off+m*2+1,none⟩=some (.int .i64 z2)∧W'.cell? ⟨w.heap.size,0,none⟩=some (.int .i64 x)∧W'.cell? ⟨w.heap.size,1,none⟩=some (.int .i64 y)∧Pure wz W' from
      ⟨(hW.cell (World.block_lt_of_cell? W _ h.1)).trans h.1,(hW.cell (World.block_lt_of_cell? W _ h.2.1)).trans h.2.1,(hW.cell (World.block_lt_of_cell? W _ h.2.2.1)).trans h.2.2.1,(hW.cell (World.block_lt_of_cell? W _ h.2.2.2.1)).trans h.2.2.2.1,h.2.2.2.2.then_ hW⟩))
   have hst0:=hid (hkeep.out wr wr.drew qv ⟨x0,x1,g0,g1,Hp.out⟩)
   cases hq:dlt (z1,z2) (x,y) with
   | true =>
     have HU2:=hid (HU.out hq)
     rw [hq] at Hl2
     clear hq HD HU x0 x1 g0 g1
     go_wp2_with fail
     go_region_held3 (fun W=>W.cell? ⟨b,off+m*2,none⟩=some (.int .i64 z1)∧W.cell? ⟨b,off+m*2+1,none⟩=some (.int .i64 z2)∧W.cell? ⟨w.heap.size,0,none⟩=some (.int .i64 x)∧W.cell? ⟨w.heap.size,1,none⟩=some (.int .i64 y)∧Pure wz W)
      (first|exact hst0.out|exact hkeep.out _ _ qa qa)
      ((go_at_call 145;(refine (Hl2.out _).mono ?_);rintro e w7 ⟨rfl,hp7⟩))
     have Hp7:=qh (Pure wz w7) (by have h7:w7.cell? ⟨b,off+m*2,none⟩=some (.int .i64 z1)∧w7.cell? ⟨b,off+m*2+1,none⟩=some (.int .i64 z2)∧w7.cell? ⟨w.heap.size,0,none⟩=some (.int .i64 x)∧w7.cell? ⟨w.heap.size,1,none⟩=some (.int .i64 y)∧Pure wz w7:=by assumption
                                   exact h7.2.2.2.2)
     go_wp2
     go_roundw
     case rel=>exact ⟨m+1,hi,by go_num,rfl,HU2.out,Hp7.out⟩
     case measure=>simp [RowKit.intOf];omega
   | false =>
     have HD2:=hid (HD.out hq)
     rw [hq] at Hl2
     clear hq HD HU x0 x1 g0 g1
     go_wp2_with fail
     go_region_held3 (fun W=>W.cell? ⟨b,off+m*2,none⟩=some (.int .i64 z1)∧W.cell? ⟨b,off+m*2+1,none⟩=some (.int .i64 z2)∧W.cell? ⟨w.heap.size,0,none⟩=some (.int .i64 x)∧W.cell? ⟨w.heap.size,1,none⟩=some (.int .i64 y)∧Pure wz W)
      (first|exact hst0.out|exact hkeep.out _ _ qa qa)
      ((go_at_call 145;(refine (Hl2.out _).mono ?_);rintro e w7 ⟨rfl,hp7⟩))
     have Hp7:=qh (Pure wz w7) (by have h7:w7.cell? ⟨b,off+m*2,none⟩=some (.int .i64 z1)∧w7.cell? ⟨b,off+m*2+1,none⟩=some (.int .i64 z2)∧w7.cell? ⟨w.heap.size,0,none⟩=some (.int .i64 x)∧w7.cell? ⟨w.heap.size,1,none⟩=some (.int .i64 y)∧Pure wz w7:=by assumption
                                   exact h7.2.2.2.2)
     go_wp2
     go_roundw
     case rel=>exact ⟨lo,m,rfl,rfl,HD2.out,Hp7.out⟩
     case measure=>simp [RowKit.intOf];omega
  ·have hge:(hi:Int)≤(lo:Int):=by omega
   have HA:=hid (Hat.out lo hi HI.out hlt)
   by_cases hin:lo<l.length
   ·have hin' : (lo:Int)<(l.length:Int):=by omega
    obtain ⟨b,off,rfl,hb,x0,x1⟩:=Dots.get (Row.pure Hr.out (Hpz.out.then_ hp):Dots wr _ l) (k:=lo) hin
    have Hm:=hid (hmem.out lo HA.out hin)
    generalize l.getD lo (0,0)=z at *
    obtain ⟨z1,z2⟩:=z
    dsimp only at x0 x1
    have hz:(decide (z1=x) && decide (z2=y))=decide ((z1,z2)=(x,y)):=by simp
    have Hz:=hid hz
    generalize hQ:(decide (z1=x) && decide (z2=y))=Q at *
    clear hI hp hb k0 k1 hz
    have Hf:=hid (fun n=>hfin.out lo (wr.drewN n) HA.out ((Hpz.out.then_ Hp.out).then_ (pdN _ n)))
    rw [Hm.out,←Hz.out] at Hf
    clear Hm Hz
    go_wp2_with fail
    go_quiet (fail)
    go_wp2
    exact bodyPost_ret (v:=.tuple #[.int .i64 (lo:Nat),.bool Q]) (by simp [results,Tryz.results186,go_sem]) rfl (Hf.out _)
   ·have hin' : ¬(lo:Int)<(l.length:Int):=by omega
    have Hn:=hid (hnone.out lo HA.out hin)
    have Hf:=hid (fun n=>hfin.out lo (wr.drewN n) HA.out ((Hpz.out.then_ Hp.out).then_ (pdN _ n)))
    rw [Hn.out] at Hf
    clear hI hp k0 k1 Hn
    go_wp2_with fail
    go_quiet (fail)
    go_wp2
    exact bodyPost_ret (v:=.tuple #[.int .i64 (lo:Nat),.bool false]) (by simp [results,Tryz.results186,go_sem]) rfl (Hf.out _)
end
section
set_option maxHeartbeats 2000000
open Go.RowKit Go.Maps Go.Shelf Go.Sort
theorem FAt.base {B:List Dot} {node:Int} {k:Nat} (h:FAt B (node,0) k) (hr:Rise B) (h0:∀d ∈ B,0≤d.2):cbase B node=if k<B.length∧(B.getD k (0,0)).1=node then (B.getD k (0,0)).2 else 0:=by
 have hlow:∀d ∈ B.take k,d.1≠node:=by
  intro d hd e
  rw [List.mem_take_iff_getElem] at hd
  obtain ⟨j,hj,rfl⟩:=hd
  have h1:=h.low j oe
  have ej:B.getD j (0,0)=B[j]:=by simp [List.getD,show j<B.length by omega]
  rw [ej] at h1
  have h2:=h0 _ (List.getElem_mem (show j<B.length by omega))
  unfold DL at h1
  dsimp only at h1
  omega
 split
 ·rename_i hh
  exact cbase_hit hh.1 hlow hh.2
 ·rename_i hh
  refine cbase_none (fun d hd e=>?_)
  obtain ⟨j,hj,rfl⟩:=List.getElem_of_mem hd
  have ej:B.getD j (0,0)=B[j]:=by simp [List.getD,hj]
  rcases Nat.lt_trichotomy j k with h1|h1|h1
  ·exact hlow _ (by rw [List.mem_take_iff_getElem];exact ⟨j,by omega,rfl⟩) e
  ·subst h1
   exact hh ⟨hj,by rw [ej];exact e⟩
  ·have h2:=rise_get hr h1 hj
   have h3:=h.high k (Nat.le_refl _) oe
   have h4:(B.getD k (0,0)).1≠node:=fun e=>hh ⟨by omega,e⟩
   rw [ej] at h2
   unfold DL at h2 h3
   dsimp only at h3
   omega
def cv (vb vc:Value):Value:=.agg #[vb,vc]
theorem upto_any (vb vc:Value) (B:List Dot) (node:Int) (w:World) (hB:Dots w vb B) (hs:Rise B) (h0:∀d ∈ B,0≤d.2) (hl:B.length≤100000) :
 Calls Tryz.prog 183 #[cv vb vc,.int .i64 node] w fun e w'=>e=.returned (.int .i64 (cbase B node))∧Pure w w':=by
 obtain ⟨a,cap,rfl⟩:=hB.shape
 obtain ⟨wz,hwz⟩:=qe (w.alloc (.cells #[.slice a B.length cap,vc] 32))
 have Hpz:=qh (Pure w wz) (by rw [hwz];exact qp)
 have k0:wz.cell? ⟨w.heap.size,0,none⟩=some (.slice a B.length cap):=by rw [hwz,World.cell?_alloc_new];simp
 have hkb:w.heap.size<wz.heap.size:=by rw [hwz];simp
 have Hf:=hid (find_any _ B (node,0) wz (Row.pure hB Hpz.out) hs hl)
 have Hb:=hid (fun k (h:FAt B (node,0) k)=>h.base hs h0)
 have HB:=hid (Row.pure hB Hpz.out)
 clear hB hs h0
 unfold cv dv at *
 dsimp only at *
 go_enter Tryz.func183,Tryz.ntmps183
 go_wp2_with fail
 rw [←hwz]
 clear hwz
 refine Hf.out.mono ?_
 rintro e w1 ⟨k,hat,rfl,hp1⟩
 have Hbb:=hid (Hb.out k hat)
 have k1:w1.cell? ⟨w.heap.size,0,none⟩=some (.slice a B.length cap):=(hp1.cell (p:=⟨w.heap.size,0,none⟩) hkb).trans k0
 have Hp:=hid (fun n=>(Hpz.out.then_ hp1).then_ (pdN w1 n))
 have hle:=hat.le
 clear Hf Hb hat
 generalize decide ((node,(0:Int)) ∈ B)=is at *
 by_cases hlt:k<B.length
 ·have hlt' : (k:Int)<(B.length:Int):=by omega
  obtain ⟨b,off,rfl,hb,x0,x1⟩:=Dots.get (Row.pure HB.out hp1:Dots w1 _ B) hlt
  by_cases he:(B.getD k (0,0)).1=node
  ·have Hc:=hid (show cbase B node=(B.getD k (0,0)).2 by rw [Hbb.out,if_pos ⟨hlt,he⟩])
   have he' : ((B.getD k (0,0)).1 == node)=true:=by simpa using he
   clear Hbb hp1 k0 hb he
   generalize B.getD k (0,0)=z at *
   obtain ⟨z1,z2⟩:=z
   dsimp only at x0 x1 he' Hc
   go_wp2
   go_ret
   exact ⟨by rw [Hc.out];rfl,Hp.out 0⟩
  ·have Hc:=hid (show cbase B node=0 by rw [Hbb.out,if_neg (fun h=>he h.2)])
   have he' : ((B.getD k (0,0)).1 == node)=false:=by simpa using he
   clear Hbb hp1 k0 hb he
   generalize B.getD k (0,0)=z at *
   obtain ⟨z1,z2⟩:=z
   dsimp only at x0 x1 he' Hc
   go_wp2
   go_ret
   exact ⟨by rw [Hc.out];rfl,Hp.out 0⟩
 ·have hlt' : ¬(k:Int)<(B.length:Int):=by omega
  have Hc:=hid (show cbase B node=0 by rw [Hbb.out,if_neg (fun h=>hlt h.1)])
  clear Hbb hp1 k0
  go_wp2
  go_ret
  exact ⟨by rw [Hc.out];rfl,Hp.out 0⟩
end
section
set_option maxHeartbeats 2000000
set_option maxRecDepth 8000
open Go.RowKit Go.Maps Go.Shelf Go.Sort
theorem has_any (vb vc:Value) (B C:List Dot) (d:Dot) (w:World) (h1:Dots w vb B) (h2:Dots w vc C) (hsB:Rise B) (hsC:Rise C) (h0:∀d ∈ B,0≤d.2) (hl1:B.length≤100000) (hl2:C.length≤100000) :
 Calls Tryz.prog 144 #[cv vb vc,dv d] w fun e w'=>e=.returned (.bool (chas B C d))∧Pure w w':=by
 obtain ⟨x,y⟩:=d
 obtain ⟨a0,c0,rfl⟩:=h1.shape
 obtain ⟨a1,c1,rfl⟩:=h2.shape
 obtain ⟨wz,hwz⟩:=qe ((w.alloc (.cells #[.slice a0 B.length c0,.slice a1 C.length c1] 32)).alloc (.cells #[.int .i64 x,.int .i64 y] 28))
 have Hwz:=qh (Pure w wz) (by rw [hwz];exact qp.alloc qb _)
 have b0:wz.heap[w.heap.size]?=some (.cells #[.slice a0 B.length c0,.slice a1 C.length c1] 32 (0,0)):=by rw [hwz];exact bao (ban _ _) _
 have b1:wz.heap[w.heap.size+1]?=some (.cells #[.int .i64 x,.int .i64 y] 28 (0,0)):=by
  rw [hwz];have:=ban (w.alloc (.cells #[.slice a0 B.length c0,.slice a1 C.length c1] 32)) (.cells #[.int .i64 x,.int .i64 y] 28)
  simpa using this
 have hp:=hid (fun W (hW:Pure wz W)=>Hwz.out.then_ hW)
 have hS:Hid (∀W,Pure wz W→(W.cell? ⟨w.heap.size,0,none⟩=some (.slice a0 B.length c0)∧W.cell? ⟨w.heap.size,1,none⟩=some (.slice a1 C.length c1)∧W.cell? ⟨w.heap.size+1,0,none⟩=some (.int .i64 x)∧W.cell? ⟨w.heap.size+1,1,none⟩=some (.int .i64 y)∧Pure wz W)):=fun W hW=>by
  have e0:=(hW.block _ (lob b0)).trans b0
  have e1:=(hW.block _ (lob b1)).trans b1
  exact ⟨cob e0 0,cob e0 1,cob e1 0,cob e1 1,hW⟩
 have hS2:Hid (∀W:World,(W.cell? ⟨w.heap.size,0,none⟩=some (.slice a0 B.length c0)∧W.cell? ⟨w.heap.size,1,none⟩=some (.slice a1 C.length c1)∧W.cell? ⟨w.heap.size+1,0,none⟩=some (.int .i64 x)∧W.cell? ⟨w.heap.size+1,1,none⟩=some (.int .i64 y)∧Pure wz W)→Pure wz W):=fun W h=>h.2.2.2.2
 have hc:=hid (fun W=>chk_any (x,y) W)
 have hh:=hid (fun W (hW:Pure wz W)=>find_any (.slice a1 C.length c1) C (x,y) W (Row.pure h2 (hp.out W hW)) hsC hl2)
 have hb:=hid (fun W (hW:Pure wz W)=>upto_any (.slice a0 B.length c0) (.slice a1 C.length c1) B x W (Row.pure h1 (hp.out W hW)) hsB h0 hl1)
 unfold chas
 unfold cv dv FdP at *
 dsimp only at hc hh hb ⊢
 clear h1 h2 b0 b1 hsB hsC h0
 generalize dchk (x,y)=I at *
 generalize decide ((x,y) ∈ C)=M at *
 generalize cbase B x=n at *
 go_enter Tryz.func144,Tryz.ntmps144
 go_wp2_with fail
 rw [←hwz]
 clear hwz
 refine (hh.out wz (Below.refl _ _)).mono ?_
 rintro e w2 ⟨k,hat,rfl,hp2⟩
 have Hp2:=hid hp2
 clear hp2 hat
 have hst:=hid (hS.out w2.drew (Hp2.out.then_ qv))
 have Hd:=hid (Hp2.out.then_ qv)
 obtain ⟨f0,f1,f2,f3,_⟩:=hS.out w2 Hp2.out
 cases I with
 | false =>
   clear f0 f1 f2 f3
   go_wp2_with fail
   refine wp_region_held_drew (S:=(fun W=>W.cell? ⟨w.heap.size,0,none⟩=some (.slice a0 B.length c0)∧W.cell? ⟨w.heap.size,1,none⟩=some (.slice a1 C.length c1)∧W.cell? ⟨w.heap.size+1,0,none⟩=some (.int .i64 x)∧W.cell? ⟨w.heap.size+1,1,none⟩=some (.int .i64 y)∧Pure wz W)) qk ?_ (fun hHeld=>?_)
   ·first|with_reducible exact hst.out|with_reducible exact hS.out _ (Pure.then_ (hS2.out _ qa) qa)
   refine tkA 0 ?_
   refine tkC 1 fun K hK=>?_
   go_simp
   go_at_call 176;(with_reducible refine (hc.out _).mono ?_);rintro e w7 ⟨rfl,hp7⟩;go_wp2_with fail
   refine hK.out _ _ (by first|with_reducible exact hst.out|with_reducible exact hS.out _ (Pure.then_ (hS2.out _ qa) qa)) fun hHeld=>?_
   clear hK K
   refine tkA 2 ?_
   refine tkU 3 ?_
   refine tkU 4 ?_
   refine tkU 5 ?_
   refine tkU 6 ?_
   refine tkU 7 ?_
   refine tkU 8 ?_
   refine tkU 9 ?_
   refine tkU 10 ?_
   refine tkU 11 ?_
   refine tkU 12 ?_
   refine tkA 13 ?_
   refine tkA 14 ?_
   refine wpAnyH_done qk ?_ _
   have hx:=hid (hp.out w7 (hS2.out w7 qa))
   clear hp7 hst
   go_wp2
   go_ret
   exact ⟨rfl,hx.out⟩
 | true =>
   clear f0 f1 f2 f3
   cases M with
   | true =>
     go_wp2_with fail
     refine wp_region_held_drew (S:=(fun W=>W.cell? ⟨w.heap.size,0,none⟩=some (.slice a0 B.length c0)∧W.cell? ⟨w.heap.size,1,none⟩=some (.slice a1 C.length c1)∧W.cell? ⟨w.heap.size+1,0,none⟩=some (.int .i64 x)∧W.cell? ⟨w.heap.size+1,1,none⟩=some (.int .i64 y)∧Pure wz W)) qk ?_ (fun hHeld=>?_)
     ·first|with_reducible exact hst.out|with_reducible exact hS.out _ (Pure.then_ (hS2.out _ qa) qa)
     refine tkA 0 ?_
     refine tkC 1 fun K hK=>?_
     go_simp
     go_at_call 176;(with_reducible refine (hc.out _).mono ?_);rintro e w7 ⟨rfl,hp7⟩;go_wp2_with fail
     refine hK.out _ _ (by first|with_reducible exact hst.out|with_reducible exact hS.out _ (Pure.then_ (hS2.out _ qa) qa)) fun hHeld=>?_
     clear hK K
     refine tkA 2 ?_
     refine tkA 3 ?_
     refine tkA 4 ?_
     refine tkU 5 ?_
     refine tkU 6 ?_
     refine tkU 7 ?_
     refine tkU 8 ?_
     refine tkU 9 ?_
     refine tkU 10 ?_
     refine tkU 11 ?_
     refine tkA 12 ?_
     refine tkA 13 ?_
     refine tkA 14 ?_
     refine wpAnyH_done qk ?_ _
     have hx:=hid (hp.out w7 (hS2.out w7 qa))
     clear hp7 hst
     go_wp2
     go_ret
     exact ⟨ret_bool qb,hx.out⟩
   | false =>
     by_cases hle:y≤n
     ·have hle' : decide (y≤n)=true:=by simpa using hle
      have Hle:=hid hle'
      go_wp2_with fail
      go_region_held3 (fun W=>W.cell? ⟨w.heap.size,0,none⟩=some (.slice a0 B.length c0)∧W.cell? ⟨w.heap.size,1,none⟩=some (.slice a1 C.length c1)∧W.cell? ⟨w.heap.size+1,0,none⟩=some (.int .i64 x)∧W.cell? ⟨w.heap.size+1,1,none⟩=some (.int .i64 y)∧Pure wz W)
      (first|with_reducible exact hst.out|with_reducible exact hS.out _ (Pure.then_ (hS2.out _ qa) qa))
      ((first|(go_at_call 176;(with_reducible refine (hc.out _).mono ?_);rintro e w7 ⟨rfl,hp7⟩)|(go_at_call 183;(with_reducible refine (hb.out _ (hS2.out _ qa)).mono ?_);rintro e w8 ⟨rfl,hp8⟩)))
      have hx:=hid (hp.out w8 (hS2.out _ qa))
      clear hp7 hp8 hst
      go_wp2
      go_ret
      exact ⟨ret_bool (by rw [Hle.out];simp),hx.out⟩
     ·have hle' : decide (y≤n)=false:=by simp;omega
      have Hle:=hid hle'
      go_wp2_with fail
      go_region_held3 (fun W=>W.cell? ⟨w.heap.size,0,none⟩=some (.slice a0 B.length c0)∧W.cell? ⟨w.heap.size,1,none⟩=some (.slice a1 C.length c1)∧W.cell? ⟨w.heap.size+1,0,none⟩=some (.int .i64 x)∧W.cell? ⟨w.heap.size+1,1,none⟩=some (.int .i64 y)∧Pure wz W)
      (first|with_reducible exact hst.out|with_reducible exact hS.out _ (Pure.then_ (hS2.out _ qa) qa))
      ((first|(go_at_call 176;(with_reducible refine (hc.out _).mono ?_);rintro e w7 ⟨rfl,hp7⟩)|(go_at_call 183;(with_reducible refine (hb.out _ (hS2.out _ qa)).mono ?_);rintro e w8 ⟨rfl,hp8⟩)))
      have hx:=hid (hp.out w8 (hS2.out _ qa))
      clear hp7 hp8 hst
      go_wp2
      go_ret
      exact ⟨ret_bool (by rw [Hle.out];simp),hx.out⟩
end
end Go.Proofs.YtdlpnhfgjficgaaGreat
