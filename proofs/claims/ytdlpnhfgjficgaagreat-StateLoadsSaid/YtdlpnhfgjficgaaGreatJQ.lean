import Derived.Test.YtdlpnhfgjficgaaGreatMX17
set_option maxHeartbeats 8000000
set_option maxRecDepth 8000
namespace Go.Proofs.YtdlpnhfgjficgaaGreat
open Go.RowKit Go.Maps Go.Shelf Go.Sort
theorem msgs_tail {w:World} {b o n cap:Nat} {x:Msg} {l:List Msg} (h:Msgs w (.slice (some ⟨b,o,none⟩) n cap) (x::l)) :
 ∃v',(∀W,(Instr.slice 29 (.slice (some ⟨b,o,none⟩) n cap) (some (.int .i64 1)) none none).run Tryz.prog W=.ok v' W)∧Msgs w v' l∧∀j,v'.rb=some j→(Value.slice (some ⟨b,o,none⟩) n cap).rb=some j:=by
 have e:n=(x::l).length:=by obtain ⟨a',c',e⟩:=Msgs.shape h;injection e
 subst e
 obtain ⟨v',h1,h2,h3⟩:=slice_suf_off (P:=Tryz.prog) Tryz.underlying29 h (k:=1) qb (.inr ⟨_,_,rfl⟩) sizeMsg
 refine ⟨v',h1,?_,h3⟩
 have:=h2 w h
 have e2:(mvs (x::l)).drop (1*5)=mvs l:=rfl
 rw [e2] at this
 exact this
structure JI (o lim:Nat) (wz w3:World) (j0 j1:Value) (cg ch:Dot→Bool) (total:List Msg) (v6 v7:Value) (l k:List Msg) (y0:Value) (Y:List Msg) (W:World):Prop where
 h6:Msgs wz v6 l
 b6:∀j,v6.rb=some j→j<lim
 h7:Msgs wz v7 k
 b7:∀j,v7.rb=some j→j<lim
 B:BL o w3 y0 j0 j1 Y W
 t:Y++bmrg cg ch l k=total
 n:Y.length+l.length+k.length≤3000
theorem alo_len (c:Dot→Bool) (m:Msg):(alo c m).length≤1:=by unfold alo;split <;> simp
section
variable {o lim:Nat} {wz w3:World} {j0 j1:Value} {cg ch:Dot→Bool} {total:List Msg} {v6 v7:Value} {l k:List Msg} {x y:Msg} {y0:Value} {Y:List Msg} {W:World}
theorem JI.left (h:JI o lim wz w3 j0 j1 cg ch total v6 v7 (x::l) k y0 Y W) (hk:k=[]∨∃y k',k=y::k'∧dlt x.1 y.1=true) {v' y1:Value} {W' : World} (h1:Msgs wz v' l) (h2:∀j,v'.rb=some j→v6.rb=some j) (h3:BL o w3 y1 j0 j1 (Y++alo ch x) W'):JI o lim wz w3 j0 j1 cg ch total v' v7 l k y1 (Y++alo ch x) W':=by
 refine ⟨h1,fun j hj=>h.b6 j (h2 j hj),h.h7,h.b7,h3,?_,?_⟩
 ·rw [←h.t,List.append_assoc]
  rcases hk with rfl|⟨y,k',rfl,hd⟩
  ·rw [bmrg]
  ·rw [bmrg,if_pos hd]
 ·have:=h.n;have:=alo_len ch x
  simp only [List.length_cons,List.length_append] at *;omega
theorem JI.right (h:JI o lim wz w3 j0 j1 cg ch total v6 v7 l (y::k) y0 Y W) (hl:l=[]∨∃x l',l=x::l'∧dlt x.1 y.1=false∧x.1≠y.1) {v' y1:Value} {W' : World} (h1:Msgs wz v' k) (h2:∀j,v'.rb=some j→v7.rb=some j) (h3:BL o w3 y1 j0 j1 (Y++alo cg y) W'):JI o lim wz w3 j0 j1 cg ch total v6 v' l k y1 (Y++alo cg y) W':=by
 refine ⟨h.h6,h.b6,h1,fun j hj=>h.b7 j (h2 j hj),h3,?_,?_⟩
 ·rw [←h.t,List.append_assoc]
  rcases hl with rfl|⟨x,l',rfl,hd,hn⟩
  ·rw [bmrg]
  ·rw [bmrg,if_neg (by simp [hd]),if_pos hn]
 ·have:=h.n;have:=alo_len cg y
  simp only [List.length_cons,List.length_append] at *;omega
theorem JI.mid (h:JI o lim wz w3 j0 j1 cg ch total v6 v7 (x::l) (y::k) y0 Y W) (hd:dlt x.1 y.1=false) (hn:x.1=y.1) {v' v'' y1:Value} {W' : World} (h1:Msgs wz v' l) (h2:∀j,v'.rb=some j→v6.rb=some j) (k1:Msgs wz v'' k) (k2:∀j,v''.rb=some j→v7.rb=some j) (h3:BL o w3 y1 j0 j1 (Y++[bothM x y]) W'):JI o lim wz w3 j0 j1 cg ch total v' v'' l k y1 (Y++[bothM x y]) W':=by
 refine ⟨h1,fun j hj=>h.b6 j (h2 j hj),k1,fun j hj=>h.b7 j (k2 j hj),h3,?_,?_⟩
 ·rw [←h.t,List.append_assoc,bmrg,if_neg (by simp [hd]),if_neg (by simpa using hn)];rfl
 ·have:=h.n
  simp only [List.length_cons,List.length_append,List.length_nil] at *;omega
theorem JI.end_ (h:JI o lim wz w3 j0 j1 cg ch total v6 v7 [] [] y0 Y W):Y=total:=by rw [←h.t,bmrg];simp
end
def vlen2 (a b:Value):Nat:=vlen a+vlen b
theorem msgs_vlen {w:World} {v:Value} {l:List Msg} (h:Msgs w v l):vlen v=l.length:=by obtain ⟨a,c,rfl⟩:=h.shape;rfl
theorem sjoin_any (v0 v1 v2 u0 u1 u2:Value) (g h:Bag) (w:World) (hr:BR3 v0 v1 v2 g w) (hs:BR3 u0 u1 u2 h w) (hg:BV g) (hh:BV h) (hll:g.1.length+h.1.length≤3000) (hlc:g.2.1.length+g.2.2.length+(h.2.1.length+h.2.2.length)≤3000) :
 Calls Tryz.prog 91 #[.agg #[v0,v1,v2],.agg #[u0,u1,u2]] w (BagO w (bjoin g h)):=by
 have hlg:g.1.length≤3000:=by omega
 have hlh:h.1.length≤3000:=by omega
 have hxg:Sml 3000 g.2:=⟨hg.ok,by omega,by omega⟩
 have hxh:Sml 3000 h.2:=⟨hh.ok,by omega,by omega⟩
 have hbj:=qh (bjoin g h=(bmrg (chas g.2.1 g.2.2) (chas h.2.1 h.2.2) g.1 h.1,Jn g.2 h.2)) (by rw [bmrg_join hg.all hh.all];rfl)
 obtain ⟨a0,c0,e0⟩:=hr.1.shape
 obtain ⟨b0,k0,f0⟩:=hs.1.shape
 subst e0
 subst f0
 obtain ⟨wz,hwz⟩:=qe (((w.alloc (.cells #[.slice a0 g.1.length c0,v1,v2] 34)).alloc (.cells #[.slice b0 h.1.length k0,u1,u2] 34)).alloc (.cells #[.slice none 0 0,.slice none 0 0,.slice none 0 0] 34))
 have Hpz:=qh (Pure w wz) (by rw [hwz];exact (qp.alloc qb _).alloc qc _)
 have hsz:wz.heap.size=w.heap.size+3:=by rw [hwz];simp
 have n1:=ban (w.alloc (.cells #[.slice a0 g.1.length c0,v1,v2] 34)) (.cells #[.slice b0 h.1.length k0,u1,u2] 34)
 have n2:=ban ((w.alloc (.cells #[.slice a0 g.1.length c0,v1,v2] 34)).alloc (.cells #[.slice b0 h.1.length k0,u1,u2] 34)) (.cells #[.slice none 0 0,.slice none 0 0,.slice none 0 0] 34)
 simp only [World.size_alloc] at n1 n2
 have hbk:Hid (wz.heap[w.heap.size]?=some (.cells #[.slice a0 g.1.length c0,v1,v2] 34 (0,0))∧wz.heap[w.heap.size+1]?=some (.cells #[.slice b0 h.1.length k0,u1,u2] 34 (0,0))∧RsB (w.heap.size+1+1) wz):=by
  show _∧_∧wz.heap[w.heap.size+1+1]?=_
  rw [hwz]
  exact ⟨bao (bao (ban _ _) _) _,bao n1 _,n2⟩
 clear n1 n2
 have Hjn:=qh (Calls Tryz.prog 142 #[.agg #[v1,v2],.agg #[u1,u2]] wz (CtxF wz (Jn g.2 h.2).1 (Jn g.2 h.2).2)) (
  join_any v1 v2 u1 u2 g.2.1 g.2.2 h.2.1 h.2.2 wz (Row.pure hr.2.1 Hpz.out) (Row.pure hr.2.2 Hpz.out) (Row.pure hs.2.1 Hpz.out) (Row.pure hs.2.2 Hpz.out) oe hxg.j hxh.j)
 unfold CtxF at Hjn
 have H60:=qh (Msgs wz (.slice a0 g.1.length c0) g.1) (Row.pure hr.1 Hpz.out)
 have H70:=qh (Msgs wz (.slice b0 h.1.length k0) h.1) (Row.pure hs.1 Hpz.out)
 have B60:=hid (fun j (hj:(Value.slice a0 g.1.length c0).rb=some j)=>Row.lt hr.1 j hj)
 have B70:=hid (fun j (hj:(Value.slice b0 h.1.length k0).rb=some j)=>Row.lt hs.1 j hj)
 have Hcg:=hid (fun W (hW:Pure wz W)=>(show CR v1 v2 g.2 W from ⟨Row.pure hr.2.1 (Hpz.out.then_ hW),Row.pure hr.2.2 (Hpz.out.then_ hW)⟩))
 have Hch:=hid (fun W (hW:Pure wz W)=>(show CR u1 u2 h.2 W from ⟨Row.pure hs.2.1 (Hpz.out.then_ hW),Row.pure hs.2.2 (Hpz.out.then_ hW)⟩))
 have Lt1:=hid (fun k hk=>Row.lt hr.2.1 k hk)
 have Lt2:=hid (fun k hk=>Row.lt hr.2.2 k hk)
 have Lt3:=hid (fun k hk=>Row.lt hs.2.1 k hk)
 have Lt4:=hid (fun k hk=>Row.lt hs.2.2 k hk)
 have Hxg:=hid hxg
 have Hxh:=hid hxh
 have Hsz:=hid hsz
 obtain ⟨L,X⟩:=g
 obtain ⟨K,Z⟩:=h
 dsimp only at *
 have hLK:L.length+K.length≤3000:=hll
 clear hr hs hg hh hxg hxh hlg hlh hll hlc hsz
 obtain ⟨f0,f1,f2⟩ : wz.cell? ⟨w.heap.size,1,none⟩=some v1∧wz.cell? ⟨w.heap.size,2,none⟩=some v2∧wz.cell? ⟨w.heap.size,0,none⟩=some (.slice a0 L.length c0):=⟨cob hbk.out.1 1,cob hbk.out.1 2,cob hbk.out.1 0⟩
 obtain ⟨f3,f4,f5⟩ : wz.cell? ⟨w.heap.size+1,1,none⟩=some u1∧wz.cell? ⟨w.heap.size+1,2,none⟩=some u2∧wz.cell? ⟨w.heap.size+1,0,none⟩=some (.slice b0 K.length k0):=⟨cob hbk.out.2.1 1,cob hbk.out.2.1 2,cob hbk.out.2.1 0⟩
 have Hf:=hid (And.intro f2 f5)
 rw [hwz] at f0 f1 f3 f4
 clear f2 f5
 go_enter Tryz.func91,Tryz.ntmps91
 go_wp2_with fail
 go_step3
 go_wp2_with fail
 rw [←hwz]
 clear hwz f0 f1 f3 f4
 refine Hjn.out.mono ?_
 rintro e w2 ⟨p1,p2,rfl,hd1,hd2,hp2,hg1,hg2⟩
 obtain ⟨x1,k1,rfl⟩:=hd1.shape
 obtain ⟨x2,k2,rfl⟩:=hd2.shape
 obtain ⟨w3,hw3⟩:=qe (w2.alloc (.cells #[.slice none 0 0,.slice x1 (Jn X Z).1.length k1,.slice x2 (Jn X Z).2.length k2] 34))
 have hp3:Pure w2 w3:=by rw [hw3];exact qp
 have hs3:w3.heap.size=w2.heap.size+1:=by rw [hw3];simp
 have ho3:w3.heap[w2.heap.size]?=some (.cells #[.slice none 0 0,.slice x1 (Jn X Z).1.length k1,.slice x2 (Jn X Z).2.length k2] 34 (0,0)):=by rw [hw3];exact ban _ _
 have Hp3:=hid (hp2.then_ hp3)
 have hs2:=hp2.size
 have hsz:=Hsz.out
 have HF:Hid (∀W,Kept (fun k=>k=w2.heap.size) w3 W→(W.cell? ⟨w.heap.size,1,none⟩=some v1∧W.cell? ⟨w.heap.size,2,none⟩=some v2∧W.cell? ⟨w.heap.size+1,1,none⟩=some u1∧W.cell? ⟨w.heap.size+1,2,none⟩=some u2∧CR v1 v2 X W∧CR u1 u2 Z W∧Dots W (.slice x1 (Jn X Z).1.length k1) (Jn X Z).1∧Dots W (.slice x2 (Jn X Z).2.length k2) (Jn X Z).2∧RsB (w.heap.size+1+1) W)):=fun W hW=>by
  have e0:=(Hp3.out.block _ (lob hbk.out.1)).trans hbk.out.1
  have e1:=(Hp3.out.block _ (lob hbk.out.2.1)).trans hbk.out.2.1
  have e2:=(Hp3.out.block _ (lob hbk.out.2.2)).trans hbk.out.2.2
  have e0':=(hW.block _ (lob e0) oe).trans e0
  have e1':=(hW.block _ (lob e1) oe).trans e1
  have e2':=(hW.block _ (lob e2) oe).trans e2
  have cg:=Hcg.out w3 Hp3.out
  have ch:=Hch.out w3 Hp3.out
  exact ⟨cob e0' 1,cob e0' 2,cob e1' 1,cob e1' 2,
   ⟨Row.kept cg.1 hW (fun k hk e=>by have:=Lt1.out k hk;omega),Row.kept cg.2 hW (fun k hk e=>by have:=Lt2.out k hk;omega)⟩,
   ⟨Row.kept ch.1 hW (fun k hk e=>by have:=Lt3.out k hk;omega),Row.kept ch.2 hW (fun k hk e=>by have:=Lt4.out k hk;omega)⟩,
   Row.kept (Row.pure hd1 hp3) hW (fun k hk e=>by have:=Row.lt hd1 k hk;omega),Row.kept (Row.pure hd2 hp3) hW (fun k hk e=>by have:=Row.lt hd2 k hk;omega),e2'⟩
 have HR:Hid (∀v l W,Msgs wz v l→(∀j,v.rb=some j→j<w.heap.size)→Kept (fun k=>k=w2.heap.size) w3 W→Msgs W v l):=fun v l W hv hb hW =>
  Row.kept (Row.pure hv Hp3.out) hW (fun k hk e=>by have:=hb k hk;omega)
 have Hst:=qh (BL w2.heap.size w3 (.slice none 0 0) (.slice x1 (Jn X Z).1.length k1) (.slice x2 (Jn X Z).2.length k2) [] w3) (⟨ho3,World.ownsRow_nil _ _ _ _,Kept.refl _ _⟩)
 have Ho:=hid (show w2.heap.size<w3.heap.size by omega)
 have Hs2:=hid (show w.heap.size+3≤w2.heap.size by omega)
 have Hfr:=hid (And.intro hg1 hg2)
 obtain ⟨f1,f2,f3,f4,-⟩:=HF.out w3 (Kept.refl _ _)
 have f0:=pat Hp3.out Hf.out.1
 have f5:=pat Hp3.out Hf.out.2
 clear hd1 hd2 hp2 hg1 hg2 hp3 hs3 ho3 hs2 hsz Hjn
 rw [hw3] at f0 f5
 go_wp2_with fail
 rw [←hw3] at *
 clear hw3
 go_quiet (fail)
 clear f0 f1 f2 f3 f4 f5
 have Hst2:=hid (Hst.out.pure (pdN w3 nq))
 go_wp2_with fail
 go_step3
 go_wp2_with fail
 go_loopw [6,7] (fun v6 v7 wr=>∃l k y0 Y,JI w2.heap.size w.heap.size wz w3 (.slice x1 (Jn X Z).1.length k1) (.slice x2 (Jn X Z).2.length k2) (chas X.1 X.2) (chas Z.1 Z.2) (bmrg (chas X.1 X.2) (chas Z.1 Z.2) L K) v6 v7 l k y0 Y wr) (fun v6 v7 _=>vlen2 v6 v7)
 case atStart=>exact ⟨L,K,_,[],H60.out,B60.out,H70.out,B70.out,Hst2.out,rfl,by simpa using hLK⟩
 case round =>
  obtain ⟨l,k,y0,Y,hI⟩:=hrel
  have HI:=hid hI
  obtain ⟨a6,c6,rfl⟩:=hI.h6.shape
  obtain ⟨a7,c7,rfl⟩:=hI.h7.shape
  have hn:=hI.n
  obtain ⟨f1,f2,f3,f4,-⟩:=HF.out wr hI.B.k
  have h6:=HR.out _ _ wr hI.h6 hI.b6 hI.B.k
  have h7:=HR.out _ _ wr hI.h7 hI.b7 hI.B.k
  clear hI
  rcases l with _|⟨x,l⟩ <;> rcases k with _|⟨y,k⟩
  ·have hT:=HI.out.end_
   have hB:=HI.out.B
   obtain ⟨-,-,-,-,-,-,hd1,hd2,hR⟩:=HF.out wr hB.k
   obtain ⟨o0,o1,o2,o3⟩:=hB.cells
   obtain ⟨r0,r1,r2,r3,r4,r5⟩:=hR.cells
   obtain ⟨a9,c9,rfl⟩:=osd hB.r0
   have hpw:Pure w wr:=by
    have h2:Kept (fun j=>w.heap.size≤j) w wr:=(Pure.kept (Hpz.out.then_ Hp3.out)).trans (hB.k.mono (fun j _ e=>by have:=Hs2.out;omega))
    exact h2.below (Nat.le_refl _) (fun j hj e=>by omega)
   obtain ⟨t0,t1,t2,hfin⟩:=bag_ret (w:=w) (g:=bjoin (L,X) (K,Z)) hR oe hpw (by rw [hbj.out];rw [←hT];exact (show BR3 _ _ _ (Y,(Jn X Z).1,(Jn X Z).2) wr from ⟨Row.of_own hB.r0,hd1,hd2⟩))
    ⟨fun j hj=>by have:=(hB.r0.lt j (rb_own hj)).1;have:=Ho.out;have:=Hs2.out;omega,fun j hj=>by have:=Hfr.out.1 j hj;have:=Hsz.out;omega,fun j hj=>by have:=Hfr.out.2 j hj;have:=Hsz.out;omega⟩
   have T0:=hid t0
   have T1:=hid t1
   have T2:=hid t2
   have Hfin:=hid hfin
   have hn0:(([]:List Msg).length:Int)=0:=rfl
   clear t0 t1 t2 hfin hpw hB hd1 hd2 hR hT h6 h7 hn
   simp only [List.length_nil] at *
   go_wp2
   exact bodyPost_ret (v:=.agg #[.slice a9 Y.length c9,.slice x1 (Jn X Z).1.length k1,.slice x2 (Jn X Z).2.length k2]) (by simp [results,Tryz.results91,go_sem,T0.out,T1.out,T2.out]) rfl Hfin.out
  ·obtain ⟨b7,o7,e,-,y0,y1,y2,y3,y4⟩:=Msgs.get (k:=0) h7 qb
   subst e
   obtain ⟨v7',hv7,ht7,hb7⟩:=msgs_tail HI.out.h7
   have Ht7:=hid ht7
   have Hb7:=hid hb7
   obtain ⟨⟨yx,yy⟩,yq,yb,yc⟩:=y
   simp only [List.getD_cons_zero,Nat.zero_mul,Nat.add_zero] at y0 y1 y2 y3 y4
   clear ht7 hb7 h7
   have hm7:vlen v7'=k.length:=msgs_vlen Ht7.out
   have hg7:(((yx,yy),yq,yb,yc)::k).length=k.length+1:=List.length_cons
   rw [hg7] at hv7 HI hn ⊢
   clear hg7
   have hp7:((k.length:Int)+1) > 0:=by omega
   have hz7:¬((k.length:Int)+1)=0:=by omega
   have hy7:(((k.length:Int)+1) == 0)=false:=by simpa using hz7
   simp only [List.length_nil] at *
   clear h6
   go_wp2_with fail
   go_quiet (fail)
   obtain ⟨wp,hwp⟩:=qe (wr.drewN nq)
   have Hqp:=qh (Pure wr wp) (by rw [hwp];exact pdN _ _)
   rw [←hwp]
   clear hwp
   go_wp2_with fail
   go_quiet (fail)
   obtain ⟨wq,hwq⟩:=qe (wp.drewN nq)
   have Hq:=qh (Pure wr wq) (by rw [hwq];exact Hqp.out.then_ (pdN _ _))
   rw [←hwq]
   clear hwq
   have y0:=pat Hq.out y0
   have y1:=pat Hq.out y1
   have y2:=pat Hq.out y2
   have y3:=pat Hq.out y3
   have y4:=pat Hq.out y4
   have f1:=pat Hq.out f1
   have f2:=pat Hq.out f2
   have hal:=hid (fun W (hW:Pure wq W)=>(show Calls _ _ _ _ _ from by
    have hB:=HI.out.B.pure (Hq.out.then_ hW)
    have e:=HF.out W hB.k
    exact alone_any ((yx,yy),yq,yb,yc) v1 v2 X _ _ w3 _ _ _ Y W (e.2.2.2.2.1) Hxg.out oe hB Ho.out oe))
   unfold mv at hal
   dsimp only at hal
   have Hdr:=qh (Pure wq wq.drew) (qv)
   go_wp2_with fail
   go_region_with (go_at_call 143;(with_reducible refine (hal.out _ Hdr.out).mono ?_);rintro e w8 ⟨rfl,y8,hB8⟩;have HB8:=hid hB8;clear hB8)
   all_goals
    clear y0 y1 y2 y3 y4 f1 f2 f3 f4 hal
    have Hvl7:=qh (vlen (Value.slice (some ⟨b7,o7,none⟩) (k.length+1) c7)=k.length+1) (rfl)
    generalize Value.slice (some ⟨b7,o7,none⟩) (k.length+1) c7=V7 at *
    go_wp2
    go_roundw
    case rel=>exact ⟨[],k,y8,_,HI.out.right (.inl rfl) Ht7.out Hb7.out HB8.out⟩
    case measure=>have:vlen (Value.slice (some ⟨b7,o7,none⟩) (k.length+1) c7)=k.length+1:=rfl;simp only [vlen2];omega
  ·obtain ⟨b6,o6,e,-,x0,x1,x2,x3,x4⟩:=Msgs.get (k:=0) h6 qb
   subst e
   obtain ⟨v6',hv6,ht6,hb6⟩:=msgs_tail HI.out.h6
   have Ht6:=hid ht6
   have Hb6:=hid hb6
   obtain ⟨⟨xx,xy⟩,xq,xb,xc⟩:=x
   simp only [List.getD_cons_zero,Nat.zero_mul,Nat.add_zero] at x0 x1 x2 x3 x4
   clear ht6 hb6 h6
   have hm6:vlen v6'=l.length:=msgs_vlen Ht6.out
   have hg6:(((xx,xy),xq,xb,xc)::l).length=l.length+1:=List.length_cons
   rw [hg6] at hv6 HI hn ⊢
   clear hg6
   have hp6:((l.length:Int)+1) > 0:=by omega
   have hz6:¬((l.length:Int)+1)=0:=by omega
   have hy6:(((l.length:Int)+1) == 0)=false:=by simpa using hz6
   simp only [List.length_nil] at *
   have hun:(undef:Value)=.tuple #[]:=rfl
   clear h7
   go_wp2_with fail
   go_quiet (fail)
   clear hun
   obtain ⟨wq,hwq⟩:=qe (wr.drewN nq)
   have Hq:=qh (Pure wr wq) (by rw [hwq];exact pdN _ _)
   rw [←hwq]
   clear hwq
   have x0:=pat Hq.out x0
   have x1:=pat Hq.out x1
   have x2:=pat Hq.out x2
   have x3:=pat Hq.out x3
   have x4:=pat Hq.out x4
   have f3:=pat Hq.out f3
   have f4:=pat Hq.out f4
   have hal:=hid (fun W (hW:Pure wq W)=>(show Calls _ _ _ _ _ from by
    have hB:=HI.out.B.pure (Hq.out.then_ hW)
    have e:=HF.out W hB.k
    exact alone_any ((xx,xy),xq,xb,xc) u1 u2 Z _ _ w3 _ _ _ Y W (e.2.2.2.2.2.1) Hxh.out oe hB Ho.out oe))
   unfold mv at hal
   dsimp only at hal
   have Hdr:=qh (Pure wq wq.drew) (qv)
   go_wp2_with fail
   go_region_with (go_at_call 143;(with_reducible refine (hal.out _ Hdr.out).mono ?_);rintro e w8 ⟨rfl,y8,hB8⟩;have HB8:=hid hB8;clear hB8)
   all_goals
    clear x0 x1 x2 x3 x4 f1 f2 f3 f4 hal
    have Hvl6:=qh (vlen (Value.slice (some ⟨b6,o6,none⟩) (l.length+1) c6)=l.length+1) (rfl)
    generalize Value.slice (some ⟨b6,o6,none⟩) (l.length+1) c6=V6 at *
    go_wp2
    go_roundw
    case rel=>exact ⟨l,[],y8,_,HI.out.left (.inl rfl) Ht6.out Hb6.out HB8.out⟩
    case measure=>have:vlen (Value.slice (some ⟨b6,o6,none⟩) (l.length+1) c6)=l.length+1:=rfl;simp only [vlen2];omega
  ·obtain ⟨b6,o6,e,-,x0,x1,x2,x3,x4⟩:=Msgs.get (k:=0) h6 qb
   subst e
   obtain ⟨v6',hv6,ht6,hb6⟩:=msgs_tail HI.out.h6
   have Ht6:=hid ht6
   have Hb6:=hid hb6
   obtain ⟨⟨xx,xy⟩,xq,xb,xc⟩:=x
   simp only [List.getD_cons_zero,Nat.zero_mul,Nat.add_zero] at x0 x1 x2 x3 x4
   clear ht6 hb6 h6
   obtain ⟨b7,o7,e,-,y0,y1,y2,y3,y4⟩:=Msgs.get (k:=0) h7 qb
   subst e
   obtain ⟨v7',hv7,ht7,hb7⟩:=msgs_tail HI.out.h7
   have Ht7:=hid ht7
   have Hb7:=hid hb7
   obtain ⟨⟨yx,yy⟩,yq,yb,yc⟩:=y
   simp only [List.getD_cons_zero,Nat.zero_mul,Nat.add_zero] at y0 y1 y2 y3 y4
   clear ht7 hb7 h7
   have hm6:vlen v6'=l.length:=msgs_vlen Ht6.out
   have hg6:(((xx,xy),xq,xb,xc)::l).length=l.length+1:=List.length_cons
   rw [hg6] at hv6 HI hn ⊢
   clear hg6
   have hp6:((l.length:Int)+1) > 0:=by omega
   have hz6:¬((l.length:Int)+1)=0:=by omega
   have hy6:(((l.length:Int)+1) == 0)=false:=by simpa using hz6
   have hm7:vlen v7'=k.length:=msgs_vlen Ht7.out
   have hg7:(((yx,yy),yq,yb,yc)::k).length=k.length+1:=List.length_cons
   rw [hg7] at hv7 HI hn ⊢
   clear hg7
   have hp7:((k.length:Int)+1) > 0:=by omega
   have hz7:¬((k.length:Int)+1)=0:=by omega
   have hy7:(((k.length:Int)+1) == 0)=false:=by simpa using hz7
   have hS:Hid (∀W,Pure wr W→(W.cell? ⟨b6,o6,none⟩=some (.int .i64 xx)∧W.cell? ⟨b6,o6+1,none⟩=some (.int .i64 xy)∧W.cell? ⟨b7,o7,none⟩=some (.int .i64 yx)∧W.cell? ⟨b7,o7+1,none⟩=some (.int .i64 yy)∧Pure wr W)):=fun W hW=>⟨pat hW x0,pat hW x1,pat hW y0,pat hW y1,hW⟩
   have hst:=hid (hS.out wr.drew qv)
   have hS2:Hid (∀W:World,(W.cell? ⟨b6,o6,none⟩=some (.int .i64 xx)∧W.cell? ⟨b6,o6+1,none⟩=some (.int .i64 xy)∧W.cell? ⟨b7,o7,none⟩=some (.int .i64 yx)∧W.cell? ⟨b7,o7+1,none⟩=some (.int .i64 yy)∧Pure wr W)→Pure wr W):=fun W h=>h.2.2.2.2
   have hls:=hid (fun W=>less_any (xx,xy) (yx,yy) W)
   obtain ⟨D,hD⟩ : ∃D,dlt (xx,xy) (yx,yy)=D:=⟨_,rfl⟩
   rw [hD] at hls
   unfold dv at hls
   dsimp only at hls
   have HD:=hid hD
   clear hD
   cases D with
   | true =>
     go_wp2_with fail
     go_region_held3 (fun W=>W.cell? ⟨b6,o6,none⟩=some (.int .i64 xx)∧W.cell? ⟨b6,o6+1,none⟩=some (.int .i64 xy)∧W.cell? ⟨b7,o7,none⟩=some (.int .i64 yx)∧W.cell? ⟨b7,o7+1,none⟩=some (.int .i64 yy)∧Pure wr W)
      (first|with_reducible exact hst.out|with_reducible exact hS.out _ (Pure.then_ (hS2.out _ qa) qa))
      ((go_at_call 145;(refine (hls.out _).mono ?_);rintro e wq ⟨rfl,hp5⟩))
     have Hq:=hid (hS2.out wq qa)
     clear hp5 hst hS hS2 hls
     have x0:=pat Hq.out x0
     have x1:=pat Hq.out x1
     have x2:=pat Hq.out x2
     have x3:=pat Hq.out x3
     have x4:=pat Hq.out x4
     have f3:=pat Hq.out f3
     have f4:=pat Hq.out f4
     have hal:=hid (fun W (hW:Pure wq W)=>(show Calls _ _ _ _ _ from by
      have hB:=HI.out.B.pure (Hq.out.then_ hW)
      have e:=HF.out W hB.k
      exact alone_any ((xx,xy),xq,xb,xc) u1 u2 Z _ _ w3 _ _ _ Y W (e.2.2.2.2.2.1) Hxh.out oe hB Ho.out oe))
     unfold mv at hal
     dsimp only at hal
     have Hdr:=qh (Pure wq wq.drew) (qv)
     go_wp2_with fail
     go_region_with (go_at_call 143;(with_reducible refine (hal.out _ Hdr.out).mono ?_);rintro e w8 ⟨rfl,y8,hB8⟩;have HB8:=hid hB8;clear hB8)
     all_goals
      clear x0 x1 x2 x3 x4 f1 f2 f3 f4 hal
      have Hvl6:=qh (vlen (Value.slice (some ⟨b6,o6,none⟩) (l.length+1) c6)=l.length+1) (rfl)
      generalize Value.slice (some ⟨b6,o6,none⟩) (l.length+1) c6=V6 at *
      go_wp2
      go_roundw
      case rel=>exact ⟨l,_,y8,_,HI.out.left (.inr ⟨_,_,rfl,HD.out⟩) Ht6.out Hb6.out HB8.out⟩
      case measure=>have:vlen (Value.slice (some ⟨b6,o6,none⟩) (l.length+1) c6)=l.length+1:=rfl;simp only [vlen2];omega
   | false =>
     go_wp2_with fail
     go_region_held3 (fun W=>W.cell? ⟨b6,o6,none⟩=some (.int .i64 xx)∧W.cell? ⟨b6,o6+1,none⟩=some (.int .i64 xy)∧W.cell? ⟨b7,o7,none⟩=some (.int .i64 yx)∧W.cell? ⟨b7,o7+1,none⟩=some (.int .i64 yy)∧Pure wr W)
      (first|with_reducible exact hst.out|with_reducible exact hS.out _ (Pure.then_ (hS2.out _ qa) qa))
      ((go_at_call 145;(refine (hls.out _).mono ?_);rintro e wp ⟨rfl,hp5⟩))
     have Hp5:=hid (hS2.out wp qa)
     clear hp5 hst hS hS2 hls
     have p0:=pat Hp5.out x0
     have p1:=pat Hp5.out x1
     have p2:=pat Hp5.out y0
     have p3:=pat Hp5.out y1
     by_cases hxy:xx=yx∧xy=yy
     ·obtain ⟨rfl,rfl⟩:=hxy
      have heq2:=fun W=>dot_eqIn W xx xy xx xy
      have htt:(decide (xx=xx) && decide (xy=xy))=true:=by simp
      rw [htt] at heq2
      clear htt
      go_wp2_with fail
      go_quiet (fail)
      obtain ⟨wq,hwq⟩:=qe (wp.drewN nq)
      have Hq:=qh (Pure wr wq) (by rw [hwq];exact Hp5.out.then_ (pdN _ _))
      rw [←hwq]
      clear hwq p0 p1 p2 p3 heq2
      have x0:=pat Hq.out x0
      have x1:=pat Hq.out x1
      have x2:=pat Hq.out x2
      have x3:=pat Hq.out x3
      have x4:=pat Hq.out x4
      have y0:=pat Hq.out y0
      have y1:=pat Hq.out y1
      have y2:=pat Hq.out y2
      have y3:=pat Hq.out y3
      have y4:=pat Hq.out y4
      obtain ⟨i0,hi,hz0,hz1,hz2⟩:=ipt infoMsg
      have HBq:=hid (HI.out.B.pure Hq.out)
      obtain ⟨a9,c9,e⟩:=osd HI.out.B.r0
      subst e
      obtain ⟨o0,o1,o2,o3⟩:=HBq.out.cells
      have hbo:=hid (fun W=>both_any ((xx,xy),xq,xb,xc) ((xx,xy),yq,yb,yc) W)
      generalize hzz:bothM ((xx,xy),xq,xb,xc) ((xx,xy),yq,yb,yc)=z at hbo
      have Hz:=hid hzz
      clear hzz
      obtain ⟨⟨zx,zy⟩,zq,zb,zc⟩:=z
      unfold mv at hbo
      dsimp only at hbo
      have hgr:=hid (fun W (hW:Pure wq W) (v' : Value) (w' : World) (h1:w'.ownsRow w3.heap.size 43 5 v' (Y.length+1) (mvs Y++mvs [((zx,zy),zq,zb,zc)])) (h2:W.grownBy w' (Value.slice a9 Y.length c9).ownBlock) =>
       (HBq.out.pure hW).grow h2 (L':=Y++[((zx,zy),zq,zb,zc)]) (by rw [List.length_append,mvs_append];exact h1) Ho.out)
      have Hdr:=qh (Pure wq wq.drew) (qv)
      have hks:=HBq.out.k.size
      clear f1 f2 f3 f4
      go_wp2_with fail
      go_region_law (first
       | (go_simp;go_at_call 146;(refine (hbo.out _).mono ?_);rintro e w8 ⟨rfl,hp8⟩;have H8:=hid (Hdr.out.then_ hp8);have hs8:=H8.out.size;have o80:=pat H8.out o0;have hol8:=lob (HBq.out.pure H8.out).out;clear hp8)
       | (refine step_append_own rfl (.tmp 80) (.tmp 88) 29 rfl w3.heap.size 43 i0 (.agg #[.int .i64 0,.int .i64 0,.string ⟨#[]⟩,.string ⟨#[]⟩,.int .i64 0]) 5 56 Tryz.underlying29 hi hz0 hz1 hz2 rfl qd (.slice a9 Y.length c9) Y.length (mvs Y) (by simp [Act.eval]) (World.ownsRow.alloc (own_pure HBq.out.r0 H8.out) _) ⟨w8.heap.size,0,none⟩ 1 1 (mvs [((zx,zy),zq,zb,zc)]) (by simp [Act.eval]) rfl (msg_lit_cells w8 ((zx,zy),zq,zb,zc)) (mvs_one _) (by unfold maxLen;omega) oe qc ?_;intro v' w' hown' hg';obtain ⟨hb',hL'⟩:=hgr.out _ (H8.out.then_ qp) v' w' hown' hg';have s1:=cob hb' 0;have s2:=fob hb' 0;clear hb';obtain ⟨a8,c8,rfl⟩:=osd hown';have HL11:=hid hL';clear hown' hg' hL'))
      all_goals
       clear x0 x1 x2 x3 x4 y0 y1 y2 y3 y4 o0 o1 o2 o3 hgr hbo
       go_wp2_with fail
       go_quiet (fail)
       have HL12:=hid (HL11.out.pure (pdN _ nq))
       have Hvl6:=qh (vlen (Value.slice (some ⟨b6,o6,none⟩) (l.length+1) c6)=l.length+1) (rfl)
       generalize Value.slice (some ⟨b6,o6,none⟩) (l.length+1) c6=V6 at *
       have Hvl7:=qh (vlen (Value.slice (some ⟨b7,o7,none⟩) (k.length+1) c7)=k.length+1) (rfl)
       generalize Value.slice (some ⟨b7,o7,none⟩) (k.length+1) c7=V7 at *
       go_wp2
       go_roundw
       (case rel=>exact ⟨l,k,_,_,HI.out.mid HD.out rfl Ht6.out Hb6.out Ht7.out Hb7.out (by rw [Hz.out];exact HL12.out)⟩)
       (case measure=>have:vlen (Value.slice (some ⟨b6,o6,none⟩) (l.length+1) c6)=l.length+1:=rfl;have:vlen (Value.slice (some ⟨b7,o7,none⟩) (k.length+1) c7)=k.length+1:=rfl;simp only [vlen2];omega)
     ·have heq2:=fun W=>dot_eqIn W xx xy yx yy
      have hff:(decide (xx=yx) && decide (xy=yy))=false:=by
       rw [Bool.and_eq_false_iff,decide_eq_false_iff_not,decide_eq_false_iff_not]
       by_cases h1:xx=yx
       ·right;intro h2;exact hxy ⟨h1,h2⟩
       ·exact .inl h1
      rw [hff] at heq2
      have Hne:=qh ((xx,xy)≠(yx,yy)) (fun e=>hxy (by injection e with e1 e2;exact ⟨e1,e2⟩))
      clear hff hxy
      go_wp2_with fail
      go_quiet (fail)
      obtain ⟨wq,hwq⟩:=qe (wp.drewN nq)
      have Hq:=qh (Pure wr wq) (by rw [hwq];exact Hp5.out.then_ (pdN _ _))
      rw [←hwq]
      clear hwq p0 p1 p2 p3 heq2
      have y0:=pat Hq.out y0
      have y1:=pat Hq.out y1
      have y2:=pat Hq.out y2
      have y3:=pat Hq.out y3
      have y4:=pat Hq.out y4
      have f1:=pat Hq.out f1
      have f2:=pat Hq.out f2
      have hal:=hid (fun W (hW:Pure wq W)=>(show Calls _ _ _ _ _ from by
       have hB:=HI.out.B.pure (Hq.out.then_ hW)
       have e:=HF.out W hB.k
       exact alone_any ((yx,yy),yq,yb,yc) v1 v2 X _ _ w3 _ _ _ Y W (e.2.2.2.2.1) Hxg.out oe hB Ho.out oe))
      unfold mv at hal
      dsimp only at hal
      have Hdr:=qh (Pure wq wq.drew) (qv)
      go_wp2_with fail
      go_region_with (go_at_call 143;(with_reducible refine (hal.out _ Hdr.out).mono ?_);rintro e w8 ⟨rfl,y8,hB8⟩;have HB8:=hid hB8;clear hB8)
      all_goals
       clear y0 y1 y2 y3 y4 f1 f2 f3 f4 hal
       have Hvl7:=qh (vlen (Value.slice (some ⟨b7,o7,none⟩) (k.length+1) c7)=k.length+1) (rfl)
       generalize Value.slice (some ⟨b7,o7,none⟩) (k.length+1) c7=V7 at *
       go_wp2
       go_roundw
       case rel=>exact ⟨_,k,y8,_,HI.out.right (.inr ⟨_,_,rfl,HD.out,Hne.out⟩) Ht7.out Hb7.out HB8.out⟩
       case measure=>have:vlen (Value.slice (some ⟨b7,o7,none⟩) (k.length+1) c7)=k.length+1:=rfl;simp only [vlen2];omega
end Go.Proofs.YtdlpnhfgjficgaaGreat
