import Derived.Test.YtdlpnhfgjficgaaGreatMEq
namespace Go.Proofs.YtdlpnhfgjficgaaGreat
section
set_option maxHeartbeats 4000000
set_option maxRecDepth 8000
open Go.RowKit Go.Maps Go.Shelf Go.Sort
theorem cnodes_sort (B C:List Dot):cnodes B (dsort C)=cnodes B C:=by
 obtain ⟨h1,h2⟩:=cnodes_spec B (dsort C)
 obtain ⟨g1,g2⟩:=cnodes_spec B C
 refine sorted_eq_i h1 g1 (fun x=>?_)
 rw [h2,g2]
 simp only [(dsort_spec C).2]
structure JOk (B C:List Dot):Prop where
 sb:Rise B
 bb:∀d ∈ B,0≤d.2∧d.2≤1152921504606846976
 bc:∀d ∈ C,d.2≤1152921504606846976
 wb:∀d ∈ B,(Lit.int .i64 d.1).wf=true
 wc:∀d ∈ C,(Lit.int .i64 d.1).wf=true
structure JnW (s:Nat) (va0 va1 vb0 vb1:Value) (W:World):Prop where
 a:W.heap[s]?=some (.cells #[va0,va1] 32 (0,0))
 b:W.heap[s+1]?=some (.cells #[vb0,vb1] 32 (0,0))
 r:W.heap[s+2]?=some (.cells #[.slice none 0 0,.slice none 0 0] 32 (0,0))
 o:W.heap[s+3]?=some (.cells #[.slice none 0 0,.slice none 0 0] 32 (0,0))
theorem JnW.pure {s:Nat} {va0 va1 vb0 vb1:Value} {W W' : World} (h:JnW s va0 va1 vb0 vb1 W) (hp:Pure W W'):JnW s va0 va1 vb0 vb1 W' :=
 ⟨(hp.block _ (lob h.a)).trans h.a,(hp.block _ (lob h.b)).trans h.b,(hp.block _ (lob h.r)).trans h.r,(hp.block _ (lob h.o)).trans h.o⟩
theorem JnW.cells {s:Nat} {va0 va1 vb0 vb1:Value} {W:World} (h:JnW s va0 va1 vb0 vb1 W):W.cell? ⟨s,0,none⟩=some va0∧W.cell? ⟨s,1,none⟩=some va1∧W.cell? ⟨s+1,0,none⟩=some vb0∧W.cell? ⟨s+1,1,none⟩=some vb1 :=
 ⟨cob h.a 0,cob h.a 1,cob h.b 0,cob h.b 1⟩
theorem JnW.made (w:World) (va0 va1 vb0 vb1:Value):∃wz,wz=(((w.alloc (.cells #[va0,va1] 32)).alloc (.cells #[vb0,vb1] 32)).alloc (.cells #[.slice none 0 0,.slice none 0 0] 32)).alloc (.cells #[.slice none 0 0,.slice none 0 0] 32) ∧
 Pure w wz∧wz.heap.size=w.heap.size+4∧JnW w.heap.size va0 va1 vb0 vb1 wz:=by
 refine ⟨_,rfl,((qp.alloc qb _).alloc qc _).alloc qc _,by simp,?_⟩
 have n1:=ban (w.alloc (.cells #[va0,va1] 32)) (.cells #[vb0,vb1] 32)
 have n2:=ban ((w.alloc (.cells #[va0,va1] 32)).alloc (.cells #[vb0,vb1] 32)) (.cells #[.slice none 0 0,.slice none 0 0] 32)
 have n3:=ban (((w.alloc (.cells #[va0,va1] 32)).alloc (.cells #[vb0,vb1] 32)).alloc (.cells #[.slice none 0 0,.slice none 0 0] 32)) (.cells #[.slice none 0 0,.slice none 0 0] 32)
 simp only [World.size_alloc] at n1 n2 n3
 exact ⟨bao (bao (bao (ban w _) _) _) _,bao (bao n1 _) _,bao n2 _,n3⟩
theorem join_any (va0 va1 vb0 vb1:Value) (aB aC bB bC:List Dot) (w:World) (h1:Dots w va0 aB) (h2:Dots w va1 aC) (h3:Dots w vb0 bB) (h4:Dots w vb1 bC) (hl:aB.length+aC.length+bB.length+bC.length≤3000) (ha:JOk aB aC) (hb:JOk bB bC) :
 Calls Tryz.prog 142 #[cv va0 va1,cv vb0 vb1] w (CtxF w (cjoin aB aC bB bC).1 (cjoin aB aC bB bC).2):=by
 obtain ⟨wz,hwz,hpz,hsz,hJ⟩:=JnW.made w va0 va1 vb0 vb1
 have hrow:Hid (∀{v:Value} {l:List Dot},Dots w v l→∀W,Pure wz W→Dots W v l):=fun hv W hW=>Row.pure hv (hpz.then_ hW)
 have HJ:=hid (fun W (hW:Pure wz W)=>hJ.pure hW)
 have hcat:=hid (fun W k cp v1 v2 l1 l2 (c1:W.cell? ⟨k,0,none⟩=some v1) (c2:W.cell? ⟨k,1,none⟩=some v2) (q1:Dots W v1 l1) (q2:Dots W v2 l2) (e1:l1.length≤100000) (e2:l2.length≤100000)=>concatd_any k cp v1 v2 l1 l2 W c1 c2 q1 q2 e1 e2 (World.block_lt_of_cell? W _ c1))
 obtain ⟨x0,q0,rfl⟩:=h1.shape
 obtain ⟨x1,q1,rfl⟩:=h2.shape
 obtain ⟨x2,q2,rfl⟩:=h3.shape
 obtain ⟨x3,q3,rfl⟩:=h4.shape
 obtain ⟨d0,d1,d2,d3⟩:=hJ.cells
 obtain ⟨W1,hW1⟩:=qe (wz.alloc (.cells #[.slice x1 aC.length q1,.slice x3 bC.length q3] 30))
 have Hp1:=qh (Pure wz W1) (by rw [hW1];exact qp)
 have hb1:W1.heap[wz.heap.size]?=some (.cells #[.slice x1 aC.length q1,.slice x3 bC.length q3] 30 (0,0)):=by rw [hW1];exact ban _ _
 have hs1:W1.heap.size=w.heap.size+5:=by rw [hW1];simp;omega
 rw [show wz.heap.size=w.heap.size+1+1+1+1 by omega] at hb1
 have Hc1:=hid (hcat.out W1 _ 2 _ _ _ _ (cob hb1 0) (cob hb1 1) (hrow.out h2 _ Hp1.out) (hrow.out h4 _ Hp1.out) oe oe)
 have Hsz:=hid hsz
 have Hs1:=hid hs1
 have Hpz:=hid hpz
 have Hr1:=hid h1
 have Hr3:=hid h3
 have hna:=hid ha
 have hnb:=hid hb
 clear hb1 hsz hs1 hpz hJ h1 h2 h3 h4 ha hb
 unfold cv
 go_enter Tryz.func142,Tryz.ntmps142
 go_wp2_with fail
 rw [←hwz,←hW1]
 refine Hc1.out.mono ?_
 rintro e w2 ⟨v2,rfl,hown2,hp2⟩
 have Hs:=hid (sort_any v2 (aC++bC) w2 (Row.of_own hown2) qc)
 have Hp2:=hid (Hp1.out.then_ hp2)
 have hp2':=Hp2.out
 clear hown2 hp2 Hc1 hwz hW1
 go_wp2_with fail
 refine Hs.out.mono ?_
 rintro e w3 ⟨v3,rfl,hown3,hp3⟩
 obtain ⟨x4,q4,rfl⟩:=osd hown3
 have hp23:=Hp2.out.then_ hp3
 obtain ⟨d0,d1,d2,d3⟩:=(HJ.out w3 hp23).cells
 obtain ⟨w4,hw4⟩:=qe (w3.alloc (.cells #[.slice x4 (dsort (aC++bC)).length q4] 30))
 have hp34:Pure w3 w4:=by rw [hw4];exact qp
 have Hp4:=hid (hp23.then_ hp34)
 have Hq4:=qh (w4.heap[w3.heap.size]?=some (.cells #[.slice x4 (dsort (aC++bC)).length q4] 30 (0,0))) (by rw [hw4];exact ban _ _)
 have Hrq:=qh (Dots w4 (.slice x4 (dsort (aC++bC)).length q4) (dsort (aC++bC))) (Row.pure (Row.of_own hown3) hp34)
 have hdl:(dsort (aC++bC)).length≤3000:=Nat.le_trans (dsort_len _) qc
 have hs23:=hp2'.size
 have Hqb:=hid (fun k (hk:(Value.slice x4 (dsort (aC++bC)).length q4).rb=some k)=>Nat.le_trans hs23 (hown3.lt k (rb_own hk)).1)
 have hs4:=Hp4.out.size
 have hs34:w4.heap.size=w3.heap.size+1:=by rw [hw4];simp
 have hcn:=hid (cnodes_sort (aB++bB) (aC++bC))
 have hmem:=hid (fun d=>(dsort_spec (aC++bC)).2 d)
 generalize hcle:dsort (aC++bC)=cl at *
 have Hcle:=hid hcle
 clear hcle
 obtain ⟨W5,hW5⟩:=qe ((w4.alloc (.cells #[.slice x0 aB.length q0,.slice x2 bB.length q2] 30)).drew)
 have hp5:Pure w4 W5:=by rw [hW5];exact qp.drew
 have hb5:W5.heap[w4.heap.size]?=some (.cells #[.slice x0 aB.length q0,.slice x2 bB.length q2] 30 (0,0)):=by rw [hW5];exact ban w4 _
 rw [hs34] at hb5
 have Hc2:=hid (hcat.out W5 (w3.heap.size+1) 2 _ _ _ _ (cob hb5 0) (cob hb5 1) (hrow.out Hr1.out _ (Hp4.out.then_ hp5)) (hrow.out Hr3.out _ (Hp4.out.then_ hp5)) oe oe)
 rw [List.length_append] at Hc2
 have hS:Hid (∀W,Pure w4 W→(W.cell? ⟨w.heap.size,0,none⟩=some (.slice x0 aB.length q0)∧W.cell? ⟨w.heap.size+1,0,none⟩=some (.slice x2 bB.length q2)∧W.cell? ⟨w3.heap.size,0,none⟩=some (.slice x4 cl.length q4)∧Pure w4 W)):=fun W hW=>by
  obtain ⟨c0,_,c2,_⟩:=(HJ.out W (Hp4.out.then_ hW)).cells
  exact ⟨c0,c2,cob ((hW.block _ (lob Hq4.out)).trans Hq4.out) 0,hW⟩
 have hst:=hid (hS.out w4.drew qv)
 have hst5:=hid (hS.out W5 hp5)
 have hS2:Hid (∀W:World,(W.cell? ⟨w.heap.size,0,none⟩=some (.slice x0 aB.length q0)∧W.cell? ⟨w.heap.size+1,0,none⟩=some (.slice x2 bB.length q2)∧W.cell? ⟨w3.heap.size,0,none⟩=some (.slice x4 cl.length q4)∧Pure w4 W)→Pure w4 W):=fun W h=>h.2.2.2
 have hwfa:Hid (∀d ∈ (aB++bB)++cl,(Lit.int .i64 d.1).wf=true):=fun d hd=>by
  rcases List.mem_append.1 hd with hd|hd
  ·rcases List.mem_append.1 hd with hd|hd
   ·exact hna.out.wb d hd
   ·exact hnb.out.wb d hd
  ·rcases List.mem_append.1 ((hmem.out d).1 hd) with hd|hd
   ·exact hna.out.wc d hd
   ·exact hnb.out.wc d hd
 have hnd:=hid (fun W v base (hv:W.ownsRow base 28 2 v (aB.length+bB.length) (dvs (aB++bB))) (hW:Pure w4 W)=>nodes_any v (.slice x4 cl.length q4) (aB++bB) cl W (Row.of_own (by rw [List.length_append];exact hv)) (Row.pure Hrq.out hW) qc oe hwfa.out)
 have HW5:=hid hW5.symm
 have HP5:=hid hp5
 clear hW5
 unfold NdP cv at hnd
 rw [hcn.out] at hnd
 clear hown3 hp3 Hs hb5 hp5 hwfa hp2' hs23 hcat
 go_wp2_with fail
 rw [←hw4]
 clear hw4 d0 d1 d2 d3
 go_region_held3 (fun W=>W.cell? ⟨w.heap.size,0,none⟩=some (.slice x0 aB.length q0)∧W.cell? ⟨w.heap.size+1,0,none⟩=some (.slice x2 bB.length q2)∧W.cell? ⟨w3.heap.size,0,none⟩=some (.slice x4 cl.length q4)∧Pure w4 W)
  (first|assumption|with_reducible exact hst.out|with_reducible exact hS.out _ (Pure.then_ (hS2.out _ qa) qa)|(rw [HW5.out];with_reducible exact hst5.out)|with_reducible exact hS.out _ (Pure.then_ HP5.out qa))
  ((first
    | (go_at_call 180;rw [HW5.out];(with_reducible refine Hc2.out.mono ?_);rintro e w6 ⟨v6,rfl,hd6,hp6⟩;obtain ⟨x6,q6,rfl⟩:=osd hd6)
    | (go_at_call 185;(with_reducible refine (hnd.out _ _ _ hd6 (hS2.out _ qa)).mono ?_);rintro e w7 ⟨v7,rfl,hd7,hp7⟩;obtain ⟨x7,q7,rfl⟩:=osd hd7)))
 have hp7w:Pure w4 w7:=hS2.out w7 qa
 have Hput:=hid (PutW.mk (na:=w.heap.size) (nb:=w.heap.size+1) (nq:=w3.heap.size) (o:=w.heap.size+3) (w6:=w7) (HJ.out w7 (Hp4.out.then_ hp7w)).a (HJ.out w7 (Hp4.out.then_ hp7w)).b ((hp7w.block _ (lob Hq4.out)).trans Hq4.out)
  oe oe (by have:=Hsz.out;have:=hp23.size;omega) (lob (HJ.out w7 (Hp4.out.then_ hp7w)).o) (hrow.out Hr1.out _ (Hp4.out.then_ hp7w)) (hrow.out Hr3.out _ (Hp4.out.then_ hp7w)) (Row.pure Hrq.out hp7w)
  (fun k hk e=>by have:=Row.lt Hr1.out k hk;omega) (fun k hk e=>by have:=Row.lt Hr3.out k hk;omega) (fun k hk e=>by have:=Hqb.out k hk;have:=Hsz.out;omega)
  hna.out.sb hnb.out.sb hna.out.bb hnb.out.bb (fun d hd=>by rcases List.mem_append.1 ((hmem.out d).1 hd) with hd|hd;exact hna.out.bc d hd;exact hnb.out.bc d hd) oe oe hdl)
 have Hout:=hid (HJ.out w7 (Hp4.out.then_ hp7w))
 have Hp7:=hid (Hpz.out.then_ (Hp4.out.then_ hp7w))
 have Hs7:=qh (w.heap.size+4≤w7.heap.size) (by have:=(Hp4.out.then_ hp7w).size;have:=Hsz.out;omega)
 have hrn:=qh (Ints w7 (.slice x7 (cnodes (aB++bB) (aC++bC)).length q7) (cnodes (aB++bB) (aC++bC))) (Row.of_own hd7)
 have hrb:=hid (fun k (hk:(Value.slice x7 (cnodes (aB++bB) (aC++bC)).length q7).rb=some k)=>(show w.heap.size+4≤k from by have:=(hd7.lt k (rb_own hk)).1;have:=hp6.size;have:=HP5.out.size;have:=Hp4.out.size;have:=Hsz.out;omega))
 have hnl:=cnodes_len (aB++bB) (aC++bC)
 simp only [List.length_append] at hnl
 have hbd:=hid (fun k=>jfoldL_bd aB bB (aC++bC) (cnodes (aB++bB) (aC++bC)) (cnodes_spec _ _).1 k)
 have hcj:=qh (cjoin aB aC bB bC=(cnodes (aB++bB) (aC++bC)).foldl (jstep aB bB (aC++bC)) ([],[])) (rfl)
 have hjs:=qh (jput aB bB cl=jstep aB bB (aC++bC)) (by rw [←Hcle.out];exact jput_step _ _ _)
 have hstep:=hid (fun k (hk:k<(cnodes (aB++bB) (aC++bC)).length)=>(show ((cnodes (aB++bB) (aC++bC)).take (k+1)).foldl (jstep aB bB (aC++bC)) ([],[])=jput aB bB cl (((cnodes (aB++bB) (aC++bC)).take k).foldl (jstep aB bB (aC++bC)) ([],[])) ((cnodes (aB++bB) (aC++bC)).getD k 0) from by rw [take_succ_get _ k hk,hjs.out];simp))
 clear hst hst5 hS hS2 hnd Hc2 HJ Hq4 Hrq Hqb hd6 hp6 hd7 hp7 hp7w hp23 hp34 Hp4 hs4 hs34 hrow hcn hmem HW5 HP5
 generalize cnodes (aB++bB) (aC++bC)=N at *
 go_wp2
 go_loopw [28] (fun i wr=>∃(k:Nat) (y0 y1:Value),k≤N.length∧i=.int .i64 k∧JL (w.heap.size+3) w7 y0 y1 ((N.take k).foldl (jstep aB bB (aC++bC)) ([],[])).1 ((N.take k).foldl (jstep aB bB (aC++bC)) ([],[])).2 wr) (fun i _=>N.length-(RowKit.intOf i).toNat)
 case atStart=>exact ⟨0,_,_,Nat.zero_le _,rfl,Hout.out.o,World.ownsRow_nil _ _ _ _,World.ownsRow_nil _ _ _ _,fun g hg=>by simp [Value.ownBlock] at hg,Kept.refl _ _⟩
 case round =>
  obtain ⟨k,y0,y1,hk,rfl,hL⟩:=hrel
  by_cases hlt:k<N.length
  ·obtain ⟨bn,on,rfl,hbn,hx⟩:=ints_get_j (show Ints wr (.slice x7 N.length q7) N from Row.kept hrn.out hL.k (fun j hj e=>by have:=hrb.out j hj;omega)) hlt
   have hlt' : (k:Int)<(N.length:Int):=by omega
   obtain ⟨l0,l1⟩:=hbd.out k
   rw [List.length_append] at l1
   have Hstep:=hid (hstep.out k hlt)
   generalize (N.take k).foldl (jstep aB bB (aC++bC)) ([],[])=L at *
   obtain ⟨L0,L1⟩:=L
   dsimp only at hL l0 l1
   generalize N.getD k 0=x at *
   have Hc:=hid (put_any w.heap.size (w.heap.size+1) w3.heap.size (w.heap.size+3) _ _ _ _ _ aB bB cl w7 wr Hput.out x y0 y1 L0 L1 hL oe oe)
   clear hL hbn
   go_wp2_with fail
   refine Hc.out.mono ?_
   rintro e w9 ⟨rfl,y2,y3,hL9⟩
   have HL9:=hid hL9
   clear hL9
   go_wp2
   go_roundw
   case rel=>exact ⟨k+1,y2,y3,by omega,by go_num,by rw [Hstep.out];exact HL9.out⟩
   case measure=>simp [RowKit.intOf];omega
  ·have hlt' : ¬(k:Int)<(N.length:Int):=by omega
   rw [List.take_of_length_le oe] at hL
   clear hbd hstep
   generalize N.foldl (jstep aB bB (aC++bC)) ([],[])=L at *
   obtain ⟨L0,L1⟩:=L
   dsimp only at hL
   obtain ⟨o0,o1,_,_⟩:=hL.cells
   have hr:wr.heap[w.heap.size+2]?=some (.cells #[.slice none 0 0,.slice none 0 0] 32 (0,0)):=(hL.k.block _ (lob Hout.out.r) oe).trans Hout.out.r
   have r0:=cob hr 0
   have r1:=cob hr 1
   have r2:=fob hr 0
   have r3:=fob hr 1
   obtain ⟨p0,k0,rfl⟩:=osd hL.r0
   obtain ⟨p1,k1,rfl⟩:=osd hL.r1
   have hpw:Pure w wr:=by
    have h2:Kept (fun j=>w.heap.size≤j) w wr:=Hp7.out.kept.trans (hL.k.mono (fun j _ e=>by omega))
    exact h2.below (Nat.le_refl _) (fun j hj e=>by omega)
   obtain ⟨t0,t1,hfin⟩:=ctx_ret (w:=w) (B:=L0) (C:=L1) hr oe hpw (Row.of_own hL.r0) (Row.of_own hL.r1) (fun j hj=>by have:=(hL.r0.lt j (rb_own hj)).1;have:=Hs7.out;omega) (fun j hj=>by have:=(hL.r1.lt j (rb_own hj)).1;have:=Hs7.out;omega)
   have T0:=hid t0
   have T1:=hid t1
   have Hfin:=hid hfin
   clear t0 t1 hfin hL hr hpw
   go_wp2
   exact bodyPost_ret (v:=.agg #[.slice p0 L0.length k0,.slice p1 L1.length k1]) (by simp [results,Tryz.results142,go_sem,T0.out,T1.out]) rfl (by rw [hcj.out];exact Hfin.out)
end
section
open Go.RowKit Go.Maps Go.Shelf Go.Sort
theorem RsC.grown {s:Nat} {W W' : World} {r:Option Nat} (h:Hid (RsC s W)) (hg:W.grownBy W' r) (hr:r≠some s):Hid (RsC s W')∧W'.cell? ⟨s,0,none⟩=some (.slice none 0 0)∧W'.cell? ⟨s,1,none⟩=some (.slice none 0 0)∧W'.frozen? ⟨s,0,none⟩=false∧W'.frozen? ⟨s,1,none⟩=false:=by
 have e:RsC s W':=(hg.block _ (lob h.out) (fun e=>hr e.symm)).trans h.out
 exact ⟨e,cob e 0,cob e 1,fob e 0,fob e 1⟩
theorem wf_dok {d:Dot} (h:dok d):(Lit.int .i64 d.1).wf=true:=wf_i64 _ (by obtain ⟨h1,h2,_⟩:=h;omega)
end
section
set_option maxHeartbeats 400000
open Go.RowKit Go.Maps Go.Shelf Go.Sort
theorem mclone_any (v:Value) (l:List Msg) (w:World) (hr:Msgs w v l) (hl:l.length≤100000) :
 Calls Tryz.prog 42 #[v] w fun e w'=>∃v',e=.returned v'∧w'.ownsRow w.heap.size 43 5 v' l.length (mvs l)∧Pure w w':=by
 obtain ⟨a,cap,rfl⟩:=hr.shape
 obtain ⟨i0,hi,hz0,hz1,hz2⟩:=ipt infoMsg
 have Hr:=hid hr
 cases a with
 | none =>
   obtain rfl:l=[]:=by
    obtain ⟨_,a',c',e,h1,h2,h3⟩:=hr
    cases e
    rcases h3 with rfl|⟨b,off,h,_⟩
    ·exact List.eq_nil_of_length_eq_zero oe
    ·cases h
   clear hr
   have he:=Lib.run_eql_slice_nil (P:=Tryz.prog) w 29 43 none 0 cap 0 0 Tryz.underlying29
   simp only [Option.isNone_none] at he
   go_enter Tryz.func42,Tryz.ntmps42
   go_wp2
   go_ret
   exact ⟨_,rfl,World.ownsRow_nil _ _ _ _,Below.refl _ _⟩
 | some x =>
   have he:=Lib.run_eql_slice_nil (P:=Tryz.prog) w 29 43 (some x) l.length cap 0 0 Tryz.underlying29
   simp only [Option.isNone_some] at he
   have hnews:∀j u,(mvs l)[j]?=some u→(w.alloc (.cells #[] 43)).cell? (x.add j)=some u:=by
    intro j u hj
    have hjl:j<(mvs l).length:=(List.getElem?_eq_some_iff.1 hj).1
    rw [mvs_len] at hjl
    obtain ⟨_,a',c',e,h1,h2,h3⟩:=hr
    cases e
    rcases h3 with rfl|⟨b,off,e,hbw,hcell⟩
    ·omega
    ·cases e
     rw [Addr.add_lit,World.cell?_alloc_lt _ _ _ hbw,hcell j hjl,hj]
   have Hn:=hid hnews
   clear hnews hr
   go_enter Tryz.func42,Tryz.ntmps42
   go_wp2_with (at_builtin;refine wpList_append_own _ rfl _ _ 29 rfl w.heap.size 43 i0 (.agg #[.int .i64 0,.int .i64 0,.string ⟨#[]⟩,.string ⟨#[]⟩,.int .i64 0]) 5 56 Tryz.underlying29 hi hz0 hz1 hz2 rfl qd _ 0 [] rfl (World.ownsRow_made w #[] 0 (Nat.le_refl _) (Nat.zero_le _) rfl) x l.length cap (mvs l) rfl (by rw [mvs_len]) Hn.out ?c2 ?c3 ?c4 ?c5 ?_)
   case c2=>intro u hu;exact mvs_one l u hu
   case c3=>unfold maxLen;omega
   case c4=>omega
   case c5=>simp
   intro v' w2 hown2 hg2 _
   have hown3:w2.ownsRow w.heap.size 43 5 v' l.length (mvs l):=by simpa using hown2
   go_wp2
   go_ret
   exact ⟨_,rfl,hown3,qp.grown hg2 qb (fun j hj=>by simp [Value.ownBlock] at hj;omega)⟩
theorem mvs_take:∀(l:List Msg) (k:Nat),mvs (l.take k)=(mvs l).take (k*5)
 | [],k=>by simp [mvs]
 | d::l,0=>by simp [mvs]
 | d::l,k+1=>by
   have ih:=mvs_take l k
   have e:mvs (d::l)=mcells d++mvs l:=rfl
   have e2:mvs (d::l.take k)=mcells d++mvs (l.take k):=rfl
   rw [List.take_succ_cons,e2,e,ih,show (k+1)*5=(mcells d).length+k*5 by show _=5+k*5;omega,List.take_length_add_append]
theorem mvs_set:∀(l:List Msg) (k:Nat) (d:Msg),k<l.length→(((((mvs l).set (k*5) (.int .i64 d.1.1)).set (k*5+1) (.int .i64 d.1.2)).set (k*5+2) (.string (bs d.2.1))).set (k*5+3) (.string (bs d.2.2.1))).set (k*5+4) (.int .i64 d.2.2.2)=mvs (l.set k d)
 | [],k,_,h=>absurd h (Nat.not_lt_zero _)
 | a::l,0,d,_=>rfl
 | a::l,k+1,d,h=>by
   have ih:=mvs_set l k d (by simpa using h)
   have e:mvs (a::l)=.int .i64 a.1.1 :: .int .i64 a.1.2 :: .string (bs a.2.1) :: .string (bs a.2.2.1) :: .int .i64 a.2.2.2::mvs l:=rfl
   have e2:mvs ((a::l).set (k+1) d)=.int .i64 a.1.1 :: .int .i64 a.1.2 :: .string (bs a.2.1) :: .string (bs a.2.2.1) :: .int .i64 a.2.2.2::mvs (l.set k d):=rfl
   rw [e,e2,←ih,show (k+1)*5=k*5+1+1+1+1+1 by omega]
   simp [List.set_cons_succ]
def setM (W:World) (b k:Nat) (d:Msg):World:=((((W.setCell ⟨b,k*5,none⟩ (.int .i64 d.1.1)).setCell ⟨b,k*5+1,none⟩ (.int .i64 d.1.2)).setCell ⟨b,k*5+2,none⟩ (.string (bs d.2.1))).setCell ⟨b,k*5+3,none⟩ (.string (bs d.2.2.1))).setCell ⟨b,k*5+4,none⟩ (.int .i64 d.2.2.2)
theorem own_set_m {w:World} {base b n cap:Nat} {l:List Msg} (h:w.ownsRow base 43 5 (.slice (some ⟨b,0,none⟩) n cap) l.length (mvs l)) {k:Nat} (hk:k<l.length) (d:Msg) :
 (setM w b k d).ownsRow base 43 5 (.slice (some ⟨b,0,none⟩) n cap) (l.set k d).length (mvs (l.set k d)):=by
 have e:n=l.length:=by obtain ⟨a',c',e⟩:=(Row.of_own h).shape;injection e
 subst e
 have h1:=(h.stored (k*5) (.int .i64 d.1.1)).1
 have h2:=(h1.stored (k*5+1) (.int .i64 d.1.2)).1
 have h3:=(h2.stored (k*5+2) (.string (bs d.2.1))).1
 have h4:=(h3.stored (k*5+3) (.string (bs d.2.2.1))).1
 have h5:=(h4.stored (k*5+4) (.int .i64 d.2.2.2)).1
 rw [mvs_set l k d hk] at h5
 rw [List.length_set];exact h5
theorem grown_setM (W:World) (b k:Nat) (d:Msg):W.grownBy (setM W b k d) (some b) :=
 grownBy_setCells b [.int .i64 d.1.1,.int .i64 d.1.2,.string (bs d.2.1),.string (bs d.2.2.1),.int .i64 d.2.2.2] (k*5) W
theorem own_cut_m {w:World} {base g n cap:Nat} {L:List Msg} (h:w.ownsRow base 43 5 (.slice (some ⟨g,0,none⟩) n cap) L.length (mvs L)) {i:Nat} (hi:i≤L.length) (vs:List Value) :
 (w.setCells g (i*5) vs).ownsRow base 43 5 (.slice (some ⟨g,0,none⟩) i cap) (L.take i).length (mvs (L.take i)):=by
 have hlen:(L.take i).length=i:=by rw [List.length_take];omega
 obtain ⟨hl,⟨e,h0⟩|⟨g',cap',cur,e,hb,hg,h1,h2,h3,h4⟩⟩:=h
 ·cases e
 ·cases e
  refine ⟨by rw [mvs_len],.inr ⟨g,cap,_,by rw [hlen],hb,block_setCells vs (i*5) w cur hg,by omega,h2,by rw [size_setMany,h3],?_⟩⟩
  rw [hlen,setMany_take _ _ _ _ (Nat.le_refl _),mvs_take,←h4,List.take_take,Nat.min_eq_left (Nat.mul_le_mul_right 5 hi)]
end
section
open Go.RowKit Go.Maps Go.Shelf Go.Sort
structure DmI (base:Nat) (l:List Msg) (p:Msg→Bool) (v:Value) (w:World) (i r:Nat) (L:List Msg) (W:World):Prop where
 lt:i<r
 len:L.length=l.length
 own:W.ownsRow base 43 5 v L.length (mvs L)
 grown:w.grownBy W v.ownBlock
 low:(l.take r).filter (fun d=>!p d)=L.take i
 high:∀j,r≤j→L.getD j m0=l.getD j m0
theorem DmI.start {base:Nat} {l:List Msg} {p:Msg→Bool} {v:Value} {w W:World} {k:Nat} (h:W.ownsRow base 43 5 v l.length (mvs l)) (hg:w.grownBy W v.ownBlock) (hk:k<l.length) (hn:∀d ∈ l.take k,p d=false) (hp:p (l.getD k m0)=true):DmI base l p v w k (k+1) l W :=
 ⟨by omega,rfl,h,hg,by
  rw [take_succ_m l k hk,List.filter_append,List.filter_eq_self.2 (fun d hd=>by rw [hn d hd];rfl)]
  simp only [List.filter_cons,hp];simp,fun _ _=>rfl⟩
theorem DmI.pure {base:Nat} {l:List Msg} {p:Msg→Bool} {v:Value} {w:World} {i r:Nat} {L:List Msg} {W W' : World} (h:DmI base l p v w i r L W) (hp:Pure W W'):DmI base l p v w i r L W':=⟨h.lt,h.len,own_pure h.own hp,grown_trans h.grown (grown_of_pure _ hp),h.low,h.high⟩
theorem DmI.skip {base:Nat} {l:List Msg} {p:Msg→Bool} {v:Value} {w:World} {i r:Nat} {L:List Msg} {W:World} (h:DmI base l p v w i r L W) (hr:r<l.length) (e:p (l.getD r m0)=true):DmI base l p v w i (r+1) L W :=
 ⟨by have:=h.lt;omega,h.len,h.own,h.grown,by rw [take_succ_m l r hr,List.filter_append,h.low];simp only [List.filter_cons,e];simp,fun j hj=>h.high j oe⟩
theorem DmI.keep {base g n cap:Nat} {l:List Msg} {p:Msg→Bool} {w:World} {i r:Nat} {L:List Msg} {W:World} (h:DmI base l p (.slice (some ⟨g,0,none⟩) n cap) w i r L W) (hr:r<l.length) (d:Msg) (hd:l.getD r m0=d) (e:p d=false) :
 DmI base l p (.slice (some ⟨g,0,none⟩) n cap) w (i+1) (r+1) (L.set i d) (setM W g i d):=by
 have hlt:=h.lt
 have hlen:=h.len
 have hi:i<L.length:=by omega
 refine ⟨by omega,by rw [List.length_set,hlen],own_set_m h.own hi d,?_,?_,fun j hj=>?_⟩
 ·exact grown_trans h.grown (grown_setM W g i d)
 ·rw [take_succ_m l r hr,List.filter_append,h.low,hd,List.take_set,List.take_succ_eq_append_getElem hi]
  rw [List.set_append_right _ _ (by rw [List.length_take];omega)]
  simp [Nat.min_eq_left (Nat.le_of_lt hi),e]
 ·rw [←h.high j oe]
  simp only [List.getD]
  rw [List.getElem?_set_ne oe]
def DmP (base:Nat) (v:Value) (l:List Msg) (p:Msg→Bool) (w:World) (e:Ending) (w' : World):Prop:=∃v',e=.returned v'∧w'.ownsRow base 43 5 v' (l.filter fun d=>!p d).length (mvs (l.filter fun d=>!p d))∧w.grownBy w' v.ownBlock
theorem DmI.done {base g n cap:Nat} {l:List Msg} {p:Msg→Bool} {w:World} {i:Nat} {L:List Msg} {W:World} (h:DmI base l p (.slice (some ⟨g,0,none⟩) n cap) w i l.length L W) (vs:List Value) :
 DmP base (.slice (some ⟨g,0,none⟩) n cap) l p w (.returned (.slice (some ⟨g,0,none⟩) i cap)) (W.setCells g (i*5) vs):=by
 have hl:=h.low
 rw [List.take_length] at hl
 refine ⟨_,rfl,?_,grown_trans h.grown (grownBy_setCells g vs (i*5) W)⟩
 rw [hl]
 exact own_cut_m h.own (i:=i) (by rw [h.len];exact Nat.le_of_lt h.lt) vs
end
section
set_option maxHeartbeats 1000000
open Go.RowKit Go.Maps Go.Sort Go.Shelf
def pcmp (a b:Pr):Int:=Lib.compareInt a.id b.id
theorem ltof_pcmp (x y:Pr):ltOf pcmp x y=decide (x.id<y.id):=by
 unfold ltOf pcmp Lib.compareInt
 by_cases h1:x.id<y.id
 ·simp [h1]
 ·by_cases h2:y.id<x.id <;> simp [h1,h2]
theorem swo_pcmp:SWO (ltOf pcmp) where
 irrefl x:=by rw [ltof_pcmp];simp
 trans x y z h1 h2:=by rw [ltof_pcmp,decide_eq_true_eq] at *;omega
 ntrans x y z h1 h2:=by rw [ltof_pcmp,decide_eq_false_iff_not] at *;omega
instance:Inhabited Pr:=⟨p0⟩
theorem pcmp_any (a b:Pr) (w:World) :
 Calls Tryz.prog 155 #[pv a,pv b] w fun e w'=>e=.returned (.int .i64 (pcmp a b))∧Grew w w':=by
 obtain ⟨x,y,z⟩:=a
 obtain ⟨u,v,t⟩:=b
 have hx:=hid (fun W=>Tryz.cmp_Compare_int x u W)
 unfold pv pcmp
 dsimp only
 generalize Lib.compareInt x u=X at *
 have Hg:=hid (((Grew.refl w).alloc (.cells #[.int .i64 x,.int .i64 y,.int .i64 z] 92)).alloc (.cells #[.int .i64 u,.int .i64 v,.int .i64 t] 92))
 go_enter Tryz.func155,Tryz.ntmps155
 go_wp2_with fail
 with_reducible refine (hx.out _).mono ?_
 rintro e w1 ⟨rfl,rfl⟩
 go_wp2
 go_ret
 exact ⟨rfl,Hg.out⟩
theorem pcmpLays (blk off size:Nat) (w:World):CmpLays Tryz.prog 155 #[] pcells 3 pcmp blk off size w :=
 fun _ _ _ _ x y=>(pcmp_any x y _).mono fun _ _ ⟨he,q,os,hw⟩=>⟨he,q,os,hw⟩
theorem flat_pvs (d:Array Pr):(flatK pcells 3 d).toList=pvs d.toList:=by
 apply List.ext_getElem?
 intro t
 by_cases ht:t<d.size*3
 ·have h1:(flatK pcells 3 d).toList[t]?=some (pcells d[t / 3]!)[t % 3]!:=by
   rw [Array.getElem?_toList,←get_flatK pcells 3 d t ht]
   have:t<(flatK pcells 3 d).size:=by simpa using ht
   rw [getElem!_pos _ t this,Array.getElem?_eq_getElem this]
  have hk:t / 3<d.toList.length:=by simp;omega
  have g:=pvs_get d.toList (t / 3) hk (t % 3) (Nat.mod_lt _ oe)
  have hd:d.toList.getD (t / 3) p0=d[t / 3]!:=by
   have:t / 3<d.size:=by omega
   simp [List.getD,this]
  rw [hd,show t / 3*3+t % 3=t by omega] at g
  rw [h1,g]
  have hm:t % 3=0∨t % 3=1∨t % 3=2:=by omega
  rcases hm with h|h|h <;> rw [h] <;> rfl
 ·rw [List.getElem?_eq_none qc,List.getElem?_eq_none (by rw [pvs_len];simp;omega)]
theorem holdsK_ownP {w:World} {g:Nat} {cur:Array Value} {e:TypeId} {l:List Pr} (hb:w.heap[g]?=some (.cells cur e (0,0))) (ht:cur.toList.take (l.length*3)=pvs l):HoldsK pcells 3 w g 0 l.toArray:=by
 intro j hj
 have hj' : j<l.length*3:=by simpa using hj
 refine ⟨?_,by simp [World.frozen?,hb]⟩
 have h1:(cur.toList.take (l.length*3))[j]?=(pvs l)[j]?:=by rw [ht]
 rw [List.getElem?_take_of_lt hj'] at h1
 simp only [World.cell?,hb,Nat.zero_add]
 simp only [Option.isSome_none,Bool.false_eq_true,if_false]
 rw [←Array.getElem?_toList,h1,show pvs l=(flatK pcells 3 l.toArray).toList by rw [flat_pvs]]
 rw [Array.getElem?_toList,getElem!_pos _ j hj,Array.getElem?_eq_getElem hj];rfl
theorem sortedK_blockP {w:World} {g n:Nat} {cur:Array Value} {e:TypeId} {fr:Nat × Nat} (d:Array Pr) (os:Array Obj) (hb:w.heap[g]?=some (.cells cur e fr)) :
 (sortWorldK pcells 3 w g 0 n d os).heap[g]?=some (.cells (putCells id 0 (flatK pcells 3 d) cur) e fr):=by
 have h:=heap_put (enc:=id) (w:=w) (n:=n) (flatK pcells 3 d) hb
 unfold sortWorldK putRowK
 rw [heap_grow_old _ _ (lob h)]
 exact h
theorem sortedK_grownP {w:World} {g n:Nat} (d:Array Pr) (os:Array Obj):w.grownBy (sortWorldK pcells 3 w g 0 n d os) (some g):=by
 have h:w.grownBy (putRowK pcells 3 (Sort.ahead w n) g 0 d) (some g):=grownBy_put (enc:=id) (w:=w) (g:=g) (n:=n) (flatK pcells 3 d)
 refine ⟨h.os,h.tape,h.output,by have:=h.size;simp [sortWorldK,grow] at *;omega,fun k hk hne=>?_⟩
 rw [←h.block k hk hne]
 exact heap_grow_old _ _ (Nat.lt_of_lt_of_le hk h.size)
theorem take_putKP (cur:Array Value) (d:Array Pr) (h:d.size*3≤cur.size):(putCells id 0 (flatK pcells 3 d) cur).toList.take (d.size*3)=pvs d.toList:=by
 have hh:=take_put (enc:=id) cur (flatK pcells 3 d).toList [] qc
 rw [List.append_nil,List.map_id,flat_pvs,pvs_len] at hh
 rw [←hh,←flat_pvs];simp
theorem sortedIn_pairP (d:Array Pr) (h:SortedIn (ltOf pcmp) 0 d.size d):d.toList.Pairwise fun a b=>¬b.id<a.id:=by
 rw [List.pairwise_iff_getElem]
 intro i j hi hj hij
 have:=h i j (Nat.zero_le _) hij (by simpa using hj)
 have hi' : i<d.size:=by simpa using hi
 have hj' : j<d.size:=by simpa using hj
 rw [ltof_pcmp,decide_eq_false_iff_not,getElem!_pos d i hi',getElem!_pos d j hj'] at this
 simpa using this
theorem sortp_own (base:Nat) (v:Value) (l:List Pr) (w:World) (h:w.ownsRow base 92 3 v l.length (pvs l)) (hl:l.length≤100000) :
 Calls Tryz.prog 195 #[v,.func (.func 155) #[] #[]] w fun e w'=>e=.returned (.tuple #[])∧∃l' : List Pr,l'.Perm l∧l'.Pairwise (fun a b=>¬b.id<a.id)∧w'.ownsRow base 92 3 v l'.length (pvs l')∧w.grownBy w' v.ownBlock:=by
 by_cases h0:l=[]
 ·subst h0
  obtain ⟨a,c,rfl⟩:=own_shape_p h
  refine (AnyF.slices_SortFunc_none { Tryz.sortP with } a c (.func (.func 155) #[] #[]) w).mono ?_
  rintro e w' ⟨rfl,rfl⟩
  exact ⟨rfl,[],List.Perm.refl _,List.Pairwise.nil,h,World.grownBy.refl _ _⟩
 ·obtain ⟨hlen,⟨rfl,h1⟩|⟨gb,cap,cur,rfl,hbase,hb,h1,h2,h3,h4⟩⟩:=h
  ·exact absurd (List.eq_nil_of_length_eq_zero h1) h0
  ·have eg:∀args w,(callFunc 155 args).run Tryz.prog w=.ok (.enter 155 args) w:=enters_of Tryz.func155 qk rfl
   have hcon:=AnyQ.slices_SortFunc Tryz.sortP 3 (fun w=>Tryz.isAgg92 w) (fun w=>Tryz.sizeOf92 w) pcells (fun _=>rfl) (fun x v hv=>by simp [pcells] at hv;rcases hv with rfl|rfl|rfl <;> rfl) pcmp swo_pcmp 155 #[] gb 0 cap l.toArray w eg (pcmpLays gb 0 _ w) (holdsK_ownP hb h4) (lob hb) qc
   have esz:l.toArray.size=l.length:=by simp
   rw [esz] at hcon
   refine hcon.mono ?_
   rintro e w' ⟨rfl,d',n,os,⟨hp1,_,hp3⟩,hs,rfl⟩
   have hd:d'.size=l.length:=by simpa using hp1
   have hp:d'.toList.Perm l:=by
    have e1:List.take l.length d'.toList=d'.toList:=List.take_of_length_le (by simp [hd])
    have e2:(List.take l.length d'.toList).Perm l:=by simpa using hp3
    rwa [e1] at e2
   refine ⟨rfl,d'.toList,hp,sortedIn_pairP d' (by rw [hd];exact hs),?_,sortedK_grownP _ _⟩
   refine ⟨by rw [pvs_len],.inr ⟨gb,cap,_,?_,hbase,sortedK_blockP _ _ hb,by simp;omega,h2,by simp [putCells,h3],?_⟩⟩
   ·simp [hd]
   ·have e:d'.toList.length=d'.size:=by simp
    rw [e];exact take_putKP cur d' (by rw [hd,h3];exact Nat.mul_le_mul_right _ h1)
theorem sortedfunc_call (b:Nat) (m:List (Int × Pr)) (w:World) (h:IMap pv w b m) (hl:m.length≤100000) :
 Calls Tryz.prog 153 #[.func (.func 196) #[] #[.pointer (some ⟨w.heap.size,0,none⟩)],.func (.func 155) #[] #[]] (w.alloc (.cells #[.map (some b)] 160)) fun e w' =>
  ∃(v:Value) (l:List Pr),e=.returned v∧l.Perm (m.map (·.2))∧l.Pairwise (fun a b=>¬b.id<a.id)∧w'.ownsRow w.heap.size 92 3 v l.length (pvs l)∧Pure w w':=by
 have hc:=hid (collect_call b m w h oe)
 have hlen:=hid (fun (ss:List Pr) (hp:ss.Perm (m.map (·.2)))=>(show ss.length≤100000 by rw [hp.length_eq];simp;omega))
 clear h hl
 go_enter Tryz.func153,Tryz.ntmps153
 go_wp2_with fail
 refine hc.out.mono ?_
 rintro e w1 ⟨v1,ss,rfl,hp,hown,hpu⟩
 have Hown:=hid hown
 have Hp:=hid hp
 have Hpu:=hid hpu
 have hs:=hid (sortp_own w.heap.size v1 ss w1 hown (hlen.out _ hp))
 clear hown hp hpu
 go_wp2_with fail
 refine hs.out.mono ?_
 rintro e w2 ⟨rfl,l',hp',hpw,hown',hg⟩
 have H2:=hid (And.intro hown' (And.intro hpw (hp'.trans Hp.out)))
 have Hpu2:=hid (Hpu.out.grown hg Hpu.out.size (fun k hk=>(Hown.out.lt k hk).1))
 clear hown' hg hp' hpw
 go_wp2
 go_ret
 exact ⟨_,rfl,_,H2.out.2.2,H2.out.2.1,H2.out.1,Hpu2.out⟩
end
end Go.Proofs.YtdlpnhfgjficgaaGreat
