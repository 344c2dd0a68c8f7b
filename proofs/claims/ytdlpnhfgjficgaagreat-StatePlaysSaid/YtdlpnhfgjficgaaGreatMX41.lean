import Derived.Test.YtdlpnhfgjficgaaGreatMMsg
import Derived.Test.YtdlpnhfgjficgaaGreatShelf
namespace Go.Proofs.YtdlpnhfgjficgaaGreat
section
set_option maxHeartbeats 4000000
set_option maxRecDepth 8000
open Go.RowKit Go.Maps
abbrev Bag:=List Msg × List Dot × List Dot
def BagAt (w:World) (v:Value) (b:Bag):Prop:=∃v0 v1 v2,v=.agg #[v0,v1,v2]∧Msgs w v0 b.1∧Dots w v1 b.2.1∧Dots w v2 b.2.2
theorem BagAt.pure {w w' : World} {v:Value} {b:Bag} (h:BagAt w v b) (hp:Pure w w'):BagAt w' v b:=by
 obtain ⟨v0,v1,v2,e,h1,h2,h3⟩:=h
 exact ⟨v0,v1,v2,e,Row.pure h1 hp,Row.pure h2 hp,Row.pure h3 hp⟩
def BagFrom (n:Nat) (v:Value):Prop:=∀v0 v1 v2,v=.agg #[v0,v1,v2]→(∀k,v0.rb=some k→n≤k)∧(∀k,v1.rb=some k→n≤k)∧∀k,v2.rb=some k→n≤k
def bput (b:Bag) (m:Msg):Bag:=(msort (b.1++[m]),cjoin b.2.1 b.2.2 [] (dsort ([m.1].filter dchk)))
def RPutW (s:Nat) (w5 W:World):Prop:=Kept (fun k=>k=s+2) w5 W∧∃t0 t1 t2,W.heap[s+2]?=some (.cells #[t0,t1,t2] 34 (0,0))
theorem RPutW.pure {s:Nat} {w5 W W' : World} (h:RPutW s w5 W) (hp:Pure W W'):RPutW s w5 W':=by
 obtain ⟨hk,t0,t1,t2,hb⟩:=h
 exact ⟨hk.trans hp.kept,t0,t1,t2,(hp.block _ (lob hb)).trans hb⟩
theorem RPutW.alloc {s:Nat} {w5 W:World} (h:RPutW s w5 W) (o:Obj):RPutW s w5 (W.alloc o):=h.pure ((Below.refl _ _).alloc (Nat.le_refl _) o)
theorem RPutW.set {s:Nat} {w5 W:World} (h:RPutW s w5 W) (i:Nat) (v:Value):RPutW s w5 (W.setCell ⟨s+1+1,i,none⟩ v):=by
 obtain ⟨hk,t0,t1,t2,hb⟩:=h
 have e:=bsc hb i v
 refine ⟨hk.setCell (fun _=>by show s+1+1=s+2;omega) _,?_⟩
 match i with
 | 0=>exact ⟨v,t1,t2,e⟩
 | 1=>exact ⟨t0,v,t2,e⟩
 | 2=>exact ⟨t0,t1,v,e⟩
 | n+3=>exact ⟨t0,t1,t2,by simpa [Array.setIfInBounds] using e⟩
theorem RPutW.cells {s:Nat} {w5 W:World} (h:RPutW s w5 W):∃t0 t1 t2,W.cell? ⟨s+1+1,0,none⟩=some t0∧W.cell? ⟨s+1+1,1,none⟩=some t1∧W.cell? ⟨s+1+1,2,none⟩=some t2∧W.frozen? ⟨s+1+1,0,none⟩=false∧W.frozen? ⟨s+1+1,1,none⟩=false∧W.frozen? ⟨s+1+1,2,none⟩=false:=by
 obtain ⟨hk,t0,t1,t2,hb⟩:=h
 exact ⟨t0,t1,t2,cob hb 0,cob hb 1,cob hb 2,fob hb 0,fob hb 1,fob hb 2⟩
theorem RPutW.ge {s:Nat} {w5 W W' : World} (h:RPutW s w5 W) (_:Pure W W'):w5.heap.size≤W.heap.size:=h.1.size
theorem Dots.pure {w w' : World} {v:Value} {l:List Dot} (h:Dots w v l) (hp:Pure w w'):Dots w' v l:=Row.pure h hp
theorem put_fin {w w5 wL:World} {v7 v0 v1:Value} {M:List Msg} {B C:List Dot} (hz:Pure w w5) (h3:w.heap.size+3≤w5.heap.size) (hQ:RPutW w.heap.size w5 wL)
 {bs7 b8:Nat} (h7:wL.ownsRow bs7 43 5 v7 M.length (mvs M)) (hge:w5.heap.size≤bs7) (h0:Dots wL v0 B) (h1:Dots wL v1 C) (hg8:w5.heap.size≤b8) (f0:∀k,v0.rb=some k→b8≤k) (f1:∀k,v1.rb=some k→b8≤k) :
 (((wL.setCell ⟨w.heap.size+1+1,0,none⟩ v7).setCell ⟨w.heap.size+1+1,1,none⟩ v0).setCell ⟨w.heap.size+1+1,2,none⟩ v1).cell? ⟨w.heap.size+1+1,0,none⟩=some v7 ∧
 (((wL.setCell ⟨w.heap.size+1+1,0,none⟩ v7).setCell ⟨w.heap.size+1+1,1,none⟩ v0).setCell ⟨w.heap.size+1+1,2,none⟩ v1).cell? ⟨w.heap.size+1+1,1,none⟩=some v0 ∧
 (((wL.setCell ⟨w.heap.size+1+1,0,none⟩ v7).setCell ⟨w.heap.size+1+1,1,none⟩ v0).setCell ⟨w.heap.size+1+1,2,none⟩ v1).cell? ⟨w.heap.size+1+1,2,none⟩=some v1 ∧
 BagAt (((wL.setCell ⟨w.heap.size+1+1,0,none⟩ v7).setCell ⟨w.heap.size+1+1,1,none⟩ v0).setCell ⟨w.heap.size+1+1,2,none⟩ v1) (.agg #[v7,v0,v1]) (M,B,C) ∧
 Pure w (((wL.setCell ⟨w.heap.size+1+1,0,none⟩ v7).setCell ⟨w.heap.size+1+1,1,none⟩ v0).setCell ⟨w.heap.size+1+1,2,none⟩ v1)∧BagFrom w.heap.size (.agg #[v7,v0,v1]):=by
 obtain ⟨hk,t0,t1,t2,hb⟩:=hQ
 have hs:Kept (fun k=>k=w.heap.size+2) wL (((wL.setCell ⟨w.heap.size+1+1,0,none⟩ v7).setCell ⟨w.heap.size+1+1,1,none⟩ v0).setCell ⟨w.heap.size+1+1,2,none⟩ v1) :=
  (((Kept.refl _ _).setCell (fun _=>by show w.heap.size+1+1=w.heap.size+2;omega) _).setCell (fun _=>by show w.heap.size+1+1=w.heap.size+2;omega) _).setCell (fun _=>by show w.heap.size+1+1=w.heap.size+2;omega) _
 have e:=bsc (bsc (bsc hb 0 v7) 1 v0) 2 v1
 refine ⟨?_,?_,?_,⟨v7,v0,v1,rfl,Row.kept (Row.of_own h7) hs ?_,Row.kept h0 hs ?_,Row.kept h1 hs ?_⟩,?_,?_⟩
 ·rw [cob e 0];simp
 ·rw [cob e 1];simp
 ·rw [cob e 2];simp
 ·exact fun k hk e=>by have:=(h7.lt k (rb_own hk)).1;omega
 ·exact fun k hk e=>by have:=f0 k hk;omega
 ·exact fun k hk e=>by have:=f1 k hk;omega
 ·exact Below.trans hz (((hk.trans hs).mono (fun k _ e=>(show w.heap.size≤k by omega))).below hz.size (fun k hk e=>by omega))
 ·intro x0 x1 x2 ex
  obtain ⟨rfl,rfl,rfl⟩ : v7=x0∧v0=x1∧v1=x2:=by simpa using ex
  exact ⟨fun k hk=>by have:=(h7.lt k (rb_own hk)).1;omega,fun k hk=>by have:=f0 k hk;omega,fun k hk=>by have:=f1 k hk;omega⟩
theorem rput_ok (vl vb vc:Value) (L:List Msg) (B C:List Dot) (m:Msg) (w:World) (hL:Msgs w vl L) (hB:Dots w vb B) (hC:Dots w vc C) (hm:mmay m=true) (hn:chas B C m.1=false) (hl:L.length≤800) (hl2:B.length+C.length≤900) (hbd:∀d ∈ B,0≤d.2∧d.2≤1152921504606846976) :
 Calls Tryz.prog 47 #[.agg #[vl,vb,vc],mv m] w fun r w'=>∃v,r=.returned (.tuple #[v,.int .i64 0])∧BagAt w' v (bput (L,B,C) m)∧Pure w w'∧BagFrom w.heap.size v:=by
 have ltl:=Row.lt hL
 have ltb:=Row.lt hB
 have ltc:=Row.lt hC
 obtain ⟨al,cl,rfl⟩:=hL.shape
 obtain ⟨ab,cb,rfl⟩:=hB.shape
 obtain ⟨ac,cc,rfl⟩:=hC.shape
 have hmay:=hid (fun W=>(show Calls _ _ _ _ _ from by have:=rmay_any m W;rw [hm] at this;exact this))
 have Hn:=hid hn
 have hput:=qh (bput (L,B,C) m=(msort (L++[m]),cjoin B C [] (dsort ([m.1].filter dchk)))) (rfl)
 obtain ⟨⟨x,y⟩,q,b,c⟩:=m
 have hlit:=hid (fun W=>msgs_lit W ((x,y),q,b,c))
 have hlen5:(L++[((x,y),q,b,c)]).length=L.length+1:=by simp
 unfold mv at *
 dsimp only at *
 clear hm hn
 obtain ⟨wz,hwz⟩:=qe (((w.alloc (.cells #[.slice al L.length cl,.slice ab B.length cb,.slice ac C.length cc] 34)).alloc (.cells #[.int .i64 x,.int .i64 y,.string (bs q),.string (bs b),.int .i64 c] 43)).alloc (.cells #[.slice none 0 0,.slice none 0 0,.slice none 0 0] 34))
 have Hwz:=qh (Pure w wz) (by rw [hwz];exact (qp.alloc qb _).alloc qc _)
 have hsz:wz.heap.size=w.heap.size+3:=by rw [hwz];simp
 have b0:wz.heap[w.heap.size]?=some (.cells #[.slice al L.length cl,.slice ab B.length cb,.slice ac C.length cc] 34 (0,0)):=by rw [hwz];exact bao (bao (ban _ _) _) _
 have b1:wz.heap[w.heap.size+1]?=some (.cells #[.int .i64 x,.int .i64 y,.string (bs q),.string (bs b),.int .i64 c] 43 (0,0)):=by
  rw [hwz]
  have:=ban (w.alloc (.cells #[.slice al L.length cl,.slice ab B.length cb,.slice ac C.length cc] 34)) (.cells #[.int .i64 x,.int .i64 y,.string (bs q),.string (bs b),.int .i64 c] 43)
  rw [World.size_alloc] at this
  exact bao this _
 have b2:wz.heap[w.heap.size+2]?=some (.cells #[.slice none 0 0,.slice none 0 0,.slice none 0 0] 34 (0,0)):=by
  rw [hwz]
  have:=ban ((w.alloc (.cells #[.slice al L.length cl,.slice ab B.length cb,.slice ac C.length cc] 34)).alloc (.cells #[.int .i64 x,.int .i64 y,.string (bs q),.string (bs b),.int .i64 c] 43)) (.cells #[.slice none 0 0,.slice none 0 0,.slice none 0 0] 34)
  simpa using this
 have hC0:Hid (∀W,Pure wz W→(W.cell? ⟨w.heap.size,0,none⟩=some (.slice al L.length cl)∧W.cell? ⟨w.heap.size,1,none⟩=some (.slice ab B.length cb)∧W.cell? ⟨w.heap.size,2,none⟩=some (.slice ac C.length cc))∧(W.cell? ⟨w.heap.size+1,0,none⟩=some (.int .i64 x)∧W.cell? ⟨w.heap.size+1,1,none⟩=some (.int .i64 y)∧W.cell? ⟨w.heap.size+1,2,none⟩=some (.string (bs q))∧W.cell? ⟨w.heap.size+1,3,none⟩=some (.string (bs b))∧W.cell? ⟨w.heap.size+1,4,none⟩=some (.int .i64 c))):=fun W hW=>by
  have e0:=(hW.block _ (lob b0)).trans b0
  have e1:=(hW.block _ (lob b1)).trans b1
  exact ⟨⟨cob e0 0,cob e0 1,cob e0 2⟩,cob e1 0,cob e1 1,cob e1 2,cob e1 3,cob e1 4⟩
 have hB2:Hid (∀W,Kept (fun k=>k=w.heap.size+2) wz W→wz.heap.size≤W.heap.size→True):=fun _ _ _=>trivial
 have HL:=qh (Msgs wz (.slice al L.length cl) L) (Row.pure hL Hwz.out)
 have HB:=qh (Dots wz (.slice ab B.length cb) B) (Row.pure hB Hwz.out)
 have HC:=qh (Dots wz (.slice ac C.length cc) C) (Row.pure hC Hwz.out)
 have Hb2:=hid b2
 have hhas:=hid (fun W (hW:Pure wz W)=>(show Calls _ _ _ _ _ from by have:=rchas_any _ _ B C (x,y) W (show Dots W (.slice ab B.length cb) B from Row.pure HB.out hW) (show Dots W (.slice ac C.length cc) C from Row.pure HC.out hW);rw [Hn.out] at this;exact this))
 unfold dv at hhas
 dsimp only at hhas
 have Hlts:=hid (And.intro ltl (And.intro ltb ltc))
 clear hL hB hC b0 b1 b2 hB2 ltl ltb ltc
 have Hbd:=hid hbd
 clear hbd
 go_enter Tryz.func47,Tryz.ntmps47
 go_wp2_with fail
 rw [←hwz]
 clear hwz
 obtain ⟨⟨f0,f1,f2⟩,g0,g1,g2,g3,g4⟩:=hC0.out wz (Below.refl _ _)
 go_wp2_with fail
 refine (hmay.out wz).mono ?_
 rintro e w1 ⟨rfl,hp1⟩
 clear f0 f1 f2 g0 g1 g2 g3 g4
 obtain ⟨⟨f0,f1,f2⟩,g0,g1,-,-,-⟩:=hC0.out w1 hp1
 have Hp1:=hid hp1
 clear hp1
 go_wp2_with fail
 refine (hhas.out w1 Hp1.out).mono ?_
 rintro e w2 ⟨rfl,hp2⟩
 have Hp2:=hid (Hp1.out.then_ hp2)
 clear f0 f1 f2 g0 g1 hp2
 obtain ⟨⟨f0,f1,f2⟩,-,-,-,-,-⟩:=hC0.out w2 Hp2.out
 have hs2:w.heap.size+3≤w2.heap.size:=by have:=Hp2.out.size;omega
 go_wp2_with (at_builtin;refine wpList_append_msgs rfl _ _ rfl (w.heap.size+3) (.slice none 0 0) [] 0 rfl (World.ownsRow_nil _ _ _ _) _ L L.length rfl (show Msgs w2 (.slice al L.length cl) L from Row.pure HL.out Hp2.out) oe hs2 ?_)
 intro v3 w3 hown3 hg3
 have hp3:Pure wz w3:=Hp2.out.then_ ((Below.refl _ _).grown hg3 (Nat.le_refl _) (fun k hk=>by simp [Value.ownBlock] at hk))
 have Hown3:=hid (show w3.ownsRow (w.heap.size+3) 43 5 v3 L.length (mvs L) by simpa using hown3)
 obtain ⟨a3,c3,rfl⟩:=osd Hown3.out
 clear f0 f1 f2 hown3 hg3
 obtain ⟨-,g0,g1,g2,g3,g4⟩:=hC0.out w3 hp3
 have Hp3:=hid hp3
 have hs3:w.heap.size+3≤(w3.alloc (.cells #[.int .i64 x,.int .i64 y,.string (bs q),.string (bs b),.int .i64 c] 43)).heap.size:=by have:=hp3.size;simp;omega
 clear hp3
 go_wp2_with (at_builtin;refine wpList_append_msgs rfl _ _ rfl (w.heap.size+3) _ L L.length rfl (Hown3.out.alloc _) _ [((x,y),q,b,c)] 1 rfl (hlit.out w3) oe hs3 ?_)
 intro v5 w5 hown5 hg5
 have hp5:Pure wz w5:=(Hp3.out.alloc Hp3.out.size _).grown hg5 (by have:=Hp3.out.size;simp;omega) (fun k hk=>by have:=(Hown3.out.lt k hk).1;omega)
 have Hown5:=hid (show w5.ownsRow (w.heap.size+3) 43 5 v5 (L++[((x,y),q,b,c)]).length (mvs (L++[((x,y),q,b,c)])) by rw [hlen5];exact hown5)
 obtain ⟨a5,c5,rfl⟩:=osd Hown5.out
 have Hp5:=hid hp5
 clear g0 g1 g2 g3 g4 hs3 hown5 hg5 hp5
 have hz5:=hid (Hwz.out.then_ Hp5.out)
 have hs5:=qh (w.heap.size+3≤w5.heap.size) (by have:=Hp5.out.size;omega)
 have hb5:=qh (w5.heap[w.heap.size+2]?=some (.cells #[.slice none 0 0,.slice none 0 0,.slice none 0 0] 34 (0,0))) ((Hp5.out.block _ (lob Hb2.out)).trans Hb2.out)
 have hS:Hid (∀W,RPutW w.heap.size w5 W→(W.cell? ⟨w.heap.size,1,none⟩=some (.slice ab B.length cb)∧W.cell? ⟨w.heap.size,2,none⟩=some (.slice ac C.length cc)∧W.cell? ⟨w.heap.size+1,0,none⟩=some (.int .i64 x)∧W.cell? ⟨w.heap.size+1,1,none⟩=some (.int .i64 y)∧RPutW w.heap.size w5 W)):=fun W hQ=>by
  have hW:=hQ.1
  obtain ⟨⟨_,f1,f2⟩,g0,g1,_⟩:=hC0.out w5 Hp5.out
  have:=hs5.out
  exact ⟨(hW.cell (p:=⟨w.heap.size,1,none⟩) (by show w.heap.size<_;omega) (by show ¬w.heap.size=_;omega)).trans f1,(hW.cell (p:=⟨w.heap.size,2,none⟩) (by show w.heap.size<_;omega) (by show ¬w.heap.size=_;omega)).trans f2,(hW.cell (p:=⟨w.heap.size+1,0,none⟩) (by show w.heap.size+1<_;omega) (by show ¬w.heap.size+1=_;omega)).trans g0,(hW.cell (p:=⟨w.heap.size+1,1,none⟩) (by show w.heap.size+1<_;omega) (by show ¬w.heap.size+1=_;omega)).trans g1,hQ⟩
 have hS2:Hid (∀W:World,(W.cell? ⟨w.heap.size,1,none⟩=some (.slice ab B.length cb)∧W.cell? ⟨w.heap.size,2,none⟩=some (.slice ac C.length cc)∧W.cell? ⟨w.heap.size+1,0,none⟩=some (.int .i64 x)∧W.cell? ⟨w.heap.size+1,1,none⟩=some (.int .i64 y)∧RPutW w.heap.size w5 W)→RPutW w.heap.size w5 W):=fun W h=>h.2.2.2.2
 have hst:=hid (hS.out w5.drew ⟨(Kept.refl _ _).drew,_,_,_,hb5.out⟩)
 have hst2:=hid (fun o=>hS.out (w5.alloc o).drew ⟨((Kept.refl _ _).alloc o).drew,_,_,_,bao hb5.out o⟩)
 have hsort:=hid (fun W (hQ:RPutW w.heap.size w5 W)=>have hW:=hQ.1;rsorted_any _ _ W (show Msgs W (.slice a5 (L++[((x,y),q,b,c)]).length c5) (L++[((x,y),q,b,c)]) from Row.kept (Row.of_own Hown5.out) hW (fun k hk e=>by have:=(Hown5.out.lt k (rb_own hk)).1;omega)) (by rw [hlen5];omega))
 have hadd:=hid (fun W (hQ:RPutW w.heap.size w5 W) vs (hv:Dots W vs [(x,y)])=>have hW:=hQ.1;radd_any _ _ vs B C [(x,y)] W (show Dots W (.slice ab B.length cb) B from Row.kept (Row.pure HB.out Hp5.out) hW (fun k hk e=>by have:=Row.lt (Row.pure HB.out Hp5.out) k hk;have:=Hlts.out.2.1 k hk;omega)) (show Dots W (.slice ac C.length cc) C from Row.kept (Row.pure HC.out Hp5.out) hW (fun k hk e=>by have:=Hlts.out.2.2 k hk;omega)) hv qc Hbd.out)
 rw [hlen5] at hsort
 have hd1:=hid (fun W:World=>(show Dots (W.drew.alloc (.cells #[.int .i64 x,.int .i64 y] 28)) (.slice (some ⟨W.heap.size,0,none⟩) 1 1) [(x,y)] from dots_lit W.drew x y))
 have hd3:=hid (fun W:World=>(show Dots (W.alloc (.cells #[.int .i64 x,.int .i64 y] 28)).drew (.slice (some ⟨W.heap.size,0,none⟩) 1 1) [(x,y)] from Row.pure (dots_lit W x y) qv))
 have hd2:=hid (fun W:World=>(show Dots (W.alloc (.cells #[.int .i64 x,.int .i64 y] 28)) (.slice (some ⟨W.heap.size,0,none⟩) 1 1) [(x,y)] from dots_lit W x y))
 go_wp2_with fail
 go_region_held3 (fun W=>W.cell? ⟨w.heap.size,1,none⟩=some (.slice ab B.length cb)∧W.cell? ⟨w.heap.size,2,none⟩=some (.slice ac C.length cc)∧W.cell? ⟨w.heap.size+1,0,none⟩=some (.int .i64 x)∧W.cell? ⟨w.heap.size+1,1,none⟩=some (.int .i64 y)∧RPutW w.heap.size w5 W)
  (first|with_reducible exact hst.out|with_reducible exact hst2.out _|with_reducible exact hS.out _ (RPutW.pure (hS2.out _ qa) qa)|with_reducible exact hS.out _ (RPutW.alloc (hS2.out _ qa) _)|with_reducible exact hS.out _ (RPutW.set (RPutW.set (RPutW.set (hS2.out _ qa) _ _) _ _) _ _))
  (first
    | (go_at_call 103;with_reducible refine (hsort.out _ (hS2.out _ qa)).mono ?_;rintro e w7 ⟨v7,rfl,hown7,hp7⟩;obtain ⟨a7,c7,rfl⟩:=osd hown7;obtain ⟨t0,t1,t2,r0,r1,r2,u0,u1,u2⟩:=RPutW.cells (RPutW.pure (hS2.out _ qa) hp7);have hQ7:=hid (RPutW.pure (hS2.out _ qa) hp7);have hge7:=hid (RPutW.ge (hS2.out _ qa) hp7))
    | (go_at_call 104;refine (hadd.out _ (hS2.out _ qa) _ ?_).mono ?_;(first|with_reducible exact hd3.out _|with_reducible exact hd1.out _|with_reducible exact hd2.out _|with_reducible exact Dots.pure (hd3.out _) qa|with_reducible exact Dots.pure (hd1.out _) qa|with_reducible exact Dots.pure (hd2.out _) qa);rintro e w8 ⟨v0,v1,rfl,hd0,hd1,hp8,hf0,hf1⟩;obtain ⟨p0,k0,rfl⟩:=hd0.shape;obtain ⟨p1,k1,rfl⟩:=hd1.shape;obtain ⟨t0,t1,t2,r0,r1,r2,u0,u1,u2⟩:=RPutW.cells (RPutW.pure (hS2.out _ qa) hp8);have hQ8:=hid (RPutW.pure (hS2.out _ qa) hp8);have hge8:=hid (RPutW.ge (hS2.out _ qa) hp8)))
 all_goals
  first
  | have hF:=hid (put_fin hz5.out hs5.out hQ7.out hown7 hge7.out (Row.pure hd0 hp7) (Row.pure hd1 hp7) hge8.out hf0 hf1)
  | have hF:=hid (put_fin hz5.out hs5.out hQ8.out (own_pure hown7 (Pure.then_ qp hp8)) hge7.out hd0 hd1 hge8.out hf0 hf1)
  | have hF:=hid (put_fin hz5.out hs5.out hQ8.out (own_pure hown7 hp8) hge7.out hd0 hd1 hge8.out hf0 hf1)
  clear hown7 hp7 hd0 hd1 hp8 hf0 hf1
  go_wp2
  refine bodyPost_ret (v:=.tuple #[.agg #[.slice a7 (msort (L++[((x,y),q,b,c)])).length c7,.slice p0 (cjoin B C [] (dsort ([(x,y)].filter dchk))).1.length k0,.slice p1 (cjoin B C [] (dsort ([(x,y)].filter dchk))).2.length k1],.int .i64 0]) (by simp [results,Tryz.results47,go_sem,hF.out.1,hF.out.2.1,hF.out.2.2.1]) rfl ⟨_,rfl,by rw [hput.out];exact hF.out.2.2.2.1,hF.out.2.2.2.2.1,hF.out.2.2.2.2.2⟩
end
section
set_option maxHeartbeats 1000000
open Go.RowKit Go.Maps Go.Shelf Go.Sort
theorem may_any (x:Int) (w:World) :
 Calls Tryz.prog 203 #[.int .i64 x] w fun e w'=>e=.returned (.bool (decide (1≤x) && decide (x≤1099511627776)))∧w'=w:=by
 by_cases h1:1≤x
 ·by_cases h2:x≤1099511627776
  ·go_enter Tryz.func203,Tryz.ntmps203
   go_wp2
   go_ret
   exact ⟨ret_bool (by simp [h1,h2]),rfl⟩
  ·go_enter Tryz.func203,Tryz.ntmps203
   go_wp2
   go_ret
   exact ⟨ret_bool (by simp [h2]),rfl⟩
 ·go_enter Tryz.func203,Tryz.ntmps203
  go_wp2
  go_ret
  exact ⟨ret_bool qc,rfl⟩
theorem chk_any (d:Dot) (w:World) :
 Calls Tryz.prog 176 #[dv d] w fun e w'=>e=.returned (.bool (dchk d))∧Pure w w':=by
 obtain ⟨x,y⟩:=d
 have hp:=qh (∀o,Pure w (w.alloc o)) (fun o=>(Below.refl _ _).alloc (Nat.le_refl _) o)
 have hx:=hid (fun W=>may_any x W)
 have hy:=hid (fun W=>may_any y W)
 have eg:∀args W,(callFunc 203 args).run Tryz.prog W=.ok (.enter 203 args) W:=enters_of Tryz.func203 qk rfl
 have hr:dchk (x,y)=((decide (1≤x) && decide (x≤1099511627776)) && (decide (1≤y) && decide (y≤1099511627776))):=by unfold dchk;simp [Bool.and_assoc]
 rw [hr]
 clear hr
 unfold dv
 dsimp only
 generalize (decide (1≤x) && decide (x≤1099511627776))=X at *
 generalize (decide (1≤y) && decide (y≤1099511627776))=Y at *
 cases X <;> cases Y
 all_goals
  go_enter Tryz.func176,Tryz.ntmps176
  go_wp2_with fail
  with_reducible refine (hx.out _).mono ?_
  rintro e w1 ⟨rfl,rfl⟩
  go_wp2_with fail
  first
  | (go_ret
     exact ⟨rfl,hp.out _⟩)
  | (with_reducible refine (hy.out _).mono ?_
     rintro e w1 ⟨rfl,rfl⟩
     go_wp2
     go_ret
     exact ⟨rfl,hp.out _⟩)
theorem or2_any (bb:Nat) (x y:Int) (w:World) (c0:w.cell? ⟨bb,0,none⟩=some (.int .i64 x)) (c1:w.cell? ⟨bb,1,none⟩=some (.int .i64 y)) :
 Calls Tryz.prog 211 #[.slice (some ⟨bb,0,none⟩) 2 2] w fun e w'=>e=.returned (.int .i64 (if x=0 then y else x))∧w'=w:=by
 by_cases hx:x=0
 ·subst hx
  by_cases hy:y=0
  ·subst hy
   go_enter Tryz.func211,Tryz.ntmps211
   go_wp2
   go_loop [8] (fun i=>i=.int .i64 0∨i=.int .i64 1∨i=.int .i64 2) (fun i=>2-(RowKit.intOf i).toNat)
   case atStart=>exact .inl rfl
   case round =>
    rcases hrel with rfl|rfl|rfl
    ·go_wp2
     go_round
     case rel=>exact .inr (.inl rfl)
     case measure=>simp [RowKit.intOf]
    ·go_wp2
     go_round
     case rel=>exact .inr (.inr rfl)
     case measure=>simp [RowKit.intOf]
    ·go_wp2
     go_ret
     exact ⟨by simp,rfl⟩
  ·have hy' : (y != 0)=true:=by simp [hy]
   go_enter Tryz.func211,Tryz.ntmps211
   go_wp2
   go_loop [8] (fun i=>i=.int .i64 0∨i=.int .i64 1) (fun i=>2-(RowKit.intOf i).toNat)
   case atStart=>exact .inl rfl
   case round =>
    rcases hrel with rfl|rfl
    ·go_wp2
     go_round
     case rel=>exact .inr rfl
     case measure=>simp [RowKit.intOf]
    ·go_wp2
     go_ret
     exact ⟨by simp,rfl⟩
 ·have hx' : (x != 0)=true:=by simp [hx]
  go_enter Tryz.func211,Tryz.ntmps211
  go_wp2
  go_loop [8] (fun i=>i=.int .i64 0) (fun i=>2-(RowKit.intOf i).toNat)
  case atStart=>rfl
  case round =>
   subst hrel
   go_wp2
   go_ret
   exact ⟨by simp,rfl⟩
def dcmp (a b:Dot):Int:=if Lib.compareInt a.1 b.1=0 then Lib.compareInt a.2 b.2 else Lib.compareInt a.1 b.1
theorem dcmp_lt (a b:Dot):decide (dcmp a b<0)=dlt a b:=by
 unfold dcmp dlt Lib.compareInt
 by_cases h1:a.1<b.1
 ·simp [h1]
 ·by_cases h2:b.1<a.1
  ·have:¬a.1=b.1:=by omega
   simp [h1,h2,this]
  ·have:a.1=b.1:=by omega
   simp [this]
   by_cases h3:a.2<b.2 <;> by_cases h4:b.2<a.2 <;> simp [h3,h4]
def Grew (w W:World):Prop:=∃q os,W=grow (w.drewN q) os
theorem Grew.refl (w:World):Grew w w:=⟨0,#[],by rw [grow_empty];rfl⟩
theorem Grew.alloc {w W:World} (h:Grew w W) (o:Obj):Grew w (W.alloc o):=by
 obtain ⟨q,os,rfl⟩:=h
 exact ⟨q,os ++ #[o],by rw [alloc_eq_grow,grow_grow]⟩
theorem Grew.drew {w W:World} (h:Grew w W):Grew w W.drew:=by
 obtain ⟨q,os,rfl⟩:=h
 exact ⟨q+1,os,rfl⟩
theorem Grew.pure {w W:World} (h:Grew w W):Pure w W:=by
 obtain ⟨q,os,rfl⟩:=h
 refine ⟨rfl,rfl,rfl,by simp [grow],fun k hk=>?_⟩
 show (w.heap++os)[k]?=_
 rw [Array.getElem?_append_left hk]
def CS (n:Nat) (x y u v:Int) (w W:World):Prop:=W.cell? ⟨n,0,none⟩=some (.int .i64 x)∧W.cell? ⟨n,1,none⟩=some (.int .i64 y)∧W.cell? ⟨n+1,0,none⟩=some (.int .i64 u)∧W.cell? ⟨n+1,1,none⟩=some (.int .i64 v)∧Grew w W
theorem CS.alloc {n:Nat} {x y u v:Int} {w W:World} (h:CS n x y u v w W) (o:Obj):CS n x y u v w (W.alloc o) :=
 have hp:Pure W (W.alloc o):=(Below.refl _ _).alloc (Nat.le_refl _) o
 ⟨(hp.cell (World.block_lt_of_cell? W _ h.1)).trans h.1,(hp.cell (World.block_lt_of_cell? W _ h.2.1)).trans h.2.1,(hp.cell (World.block_lt_of_cell? W _ h.2.2.1)).trans h.2.2.1,(hp.cell (World.block_lt_of_cell? W _ h.2.2.2.1)).trans h.2.2.2.1,h.2.2.2.2.alloc o⟩
theorem CS.drew {n:Nat} {x y u v:Int} {w W:World} (h:CS n x y u v w W):CS n x y u v w W.drew:=⟨h.1,h.2.1,h.2.2.1,h.2.2.2.1,h.2.2.2.2.drew⟩
theorem cmp_any (a b:Dot) (w:World) :
 Calls Tryz.prog 187 #[dv a,dv b] w fun e w'=>e=.returned (.int .i64 (dcmp a b))∧Grew w w':=by
 obtain ⟨x,y⟩:=a
 obtain ⟨u,v⟩:=b
 have hx:=hid (fun W=>Tryz.cmp_Compare_int x u W)
 have hy:=hid (fun W=>Tryz.cmp_Compare_int y v W)
 unfold dv dcmp
 dsimp only
 generalize Lib.compareInt x u=X at *
 generalize Lib.compareInt y v=Y at *
 have ho:=qh (Calls Tryz.prog 211 #[.slice (some ⟨w.heap.size+1+1,0,none⟩) 2 2] (((w.alloc (.cells #[.int .i64 x,.int .i64 y] 28)).alloc (.cells #[.int .i64 u,.int .i64 v] 28)).alloc (.cells #[.int .i64 X,.int .i64 Y] 3)).drew _) (
  or2_any _ X Y _ (by show (World.alloc _ _).cell? _=_;rw [show w.heap.size+1+1=((w.alloc (.cells #[.int .i64 x,.int .i64 y] 28)).alloc (.cells #[.int .i64 u,.int .i64 v] 28)).heap.size by simp,World.cell?_alloc_new];simp) (by show (World.alloc _ _).cell? _=_;rw [show w.heap.size+1+1=((w.alloc (.cells #[.int .i64 x,.int .i64 y] 28)).alloc (.cells #[.int .i64 u,.int .i64 v] 28)).heap.size by simp,World.cell?_alloc_new];simp))
 generalize (if X=0 then Y else X)=R at *
 have hst0:=qh (CS w.heap.size x y u v w ((w.alloc (.cells #[.int .i64 x,.int .i64 y] 28)).alloc (.cells #[.int .i64 u,.int .i64 v] 28))) (
  ⟨by simp,by simp,by show (World.alloc _ _).cell? _=_;rw [show w.heap.size+1=(w.alloc (.cells #[.int .i64 x,.int .i64 y] 28)).heap.size by simp,World.cell?_alloc_new];simp,by show (World.alloc _ _).cell? _=_;rw [show w.heap.size+1=(w.alloc (.cells #[.int .i64 x,.int .i64 y] 28)).heap.size by simp,World.cell?_alloc_new];simp,((Grew.refl w).alloc _).alloc _⟩)
 have hst:=hid hst0.out.drew
 have hkeep:=hid (fun W o (h:CS w.heap.size x y u v w W)=>h.alloc o)
 go_enter Tryz.func187,Tryz.ntmps187
 go_wp2_with fail
 go_region_held3 (fun W=>W.cell? ⟨w.heap.size,0,none⟩=some (.int .i64 x)∧W.cell? ⟨w.heap.size,1,none⟩=some (.int .i64 y)∧W.cell? ⟨w.heap.size+1,0,none⟩=some (.int .i64 u)∧W.cell? ⟨w.heap.size+1,1,none⟩=some (.int .i64 v)∧Grew w W)
  (first|assumption|exact hst.out|exact (hkeep.out _ _ hst0.out).drew|exact hC.out)
  (first
  | (go_at_call 156;(with_reducible refine (hx.out _).mono ?_);rintro e w7 ⟨rfl,rfl⟩)
  | (go_at_call 156;(with_reducible refine (hy.out _).mono ?_);rintro e w7 ⟨rfl,rfl⟩)
  | (go_at_call 211;(with_reducible refine ho.out.mono ?_);rintro e w7 ⟨rfl,hw7⟩;have hC:=hid (show CS w.heap.size x y u v w w7 by rw [hw7];exact (hkeep.out _ _ hst0.out).drew);clear hw7))
 go_wp2
 go_ret
 exact ⟨rfl,hC.out.2.2.2.2⟩
theorem cmp_pure (a b:Dot) (w:World) :
 Calls Tryz.prog 187 #[dv a,dv b] w fun e w'=>e=.returned (.int .i64 (dcmp a b))∧Pure w w' :=
 (cmp_any a b w).mono fun _ _ ⟨he,hw⟩=>⟨he,hw.pure⟩
theorem less_any (d e:Dot) (w:World) :
 Calls Tryz.prog 145 #[dv d,dv e] w fun r w'=>r=.returned (.bool (dlt d e))∧Pure w w':=by
 have hp:=qh (∀o o',Pure w ((w.alloc o).alloc o')) (fun o o'=>((Below.refl _ _).alloc (Nat.le_refl _) o).alloc qb o')
 have hc:=hid (fun W=>cmp_pure d e W)
 rw [←dcmp_lt]
 generalize dcmp d e=c at *
 obtain ⟨x,y⟩:=d
 obtain ⟨u,v⟩:=e
 unfold dv at *
 dsimp only at *
 by_cases h:c<0
 all_goals
  go_enter Tryz.func145,Tryz.ntmps145
  go_wp2_with fail
  with_reducible refine (hc.out _).mono ?_
  rintro e w1 ⟨rfl,hp1⟩
  have Hp1:=hid hp1
  clear hp1
  go_wp2
  go_ret
  exact ⟨ret_bool (by simp [h]),(hp.out _ _).then_ Hp1.out⟩
end
end Go.Proofs.YtdlpnhfgjficgaaGreat
