import Derived.Test.YtdlpnhfgjficgaaGreatMX34
namespace Go.Proofs.YtdlpnhfgjficgaaGreat
section
open Go.RowKit Go.Maps Go.Shelf Go.Sort
def BR3 (v0 v1 v2:Value) (g:Bag) (W:World):Prop:=Msgs W v0 g.1∧Dots W v1 g.2.1∧Dots W v2 g.2.2
theorem BR3.pure {v0 v1 v2:Value} {g:Bag} {W W' : World} (h:BR3 v0 v1 v2 g W) (hp:Pure W W'):BR3 v0 v1 v2 g W':=⟨Row.pure h.1 hp,Row.pure h.2.1 hp,Row.pure h.2.2 hp⟩
theorem BR3.at {v0 v1 v2:Value} {g:Bag} {W:World} (h:BR3 v0 v1 v2 g W):BagAt W (.agg #[v0,v1,v2]) g:=⟨v0,v1,v2,rfl,h.1,h.2.1,h.2.2⟩
theorem BR3.of {v0 v1 v2:Value} {g:Bag} {W:World} (h:BagAt W (.agg #[v0,v1,v2]) g):BR3 v0 v1 v2 g W:=by
 obtain ⟨u0,u1,u2,e,h1,h2,h3⟩:=h
 obtain ⟨rfl,rfl,rfl⟩:=agg3 e
 exact ⟨h1,h2,h3⟩
def BFr (n:Nat) (v0 v1 v2:Value):Prop:=(∀k,v0.rb=some k→n≤k)∧(∀k,v1.rb=some k→n≤k)∧∀k,v2.rb=some k→n≤k
theorem BFr.mono {n m:Nat} {v0 v1 v2:Value} (h:BFr n v0 v1 v2) (hm:m≤n):BFr m v0 v1 v2:=⟨fun k hk=>Nat.le_trans hm (h.1 k hk),fun k hk=>Nat.le_trans hm (h.2.1 k hk),fun k hk=>Nat.le_trans hm (h.2.2 k hk)⟩
theorem BR3.lt {v0 v1 v2:Value} {g:Bag} {W:World} (h:BR3 v0 v1 v2 g W):(∀k,v0.rb=some k→k<W.heap.size)∧(∀k,v1.rb=some k→k<W.heap.size)∧∀k,v2.rb=some k→k<W.heap.size:=⟨Row.lt h.1,Row.lt h.2.1,Row.lt h.2.2⟩
theorem BR3.kept {S:Nat→Prop} {v0 v1 v2:Value} {g:Bag} {W W' : World} (h:BR3 v0 v1 v2 g W) (hk:Kept S W W') (h0:∀k,v0.rb=some k→¬S k) (h1:∀k,v1.rb=some k→¬S k) (h2:∀k,v2.rb=some k→¬S k):BR3 v0 v1 v2 g W':=⟨Row.kept h.1 hk h0,Row.kept h.2.1 hk h1,Row.kept h.2.2 hk h2⟩
def BagO (w:World) (g:Bag) (e:Ending) (w' : World):Prop:=∃v0 v1 v2,e=.returned (.agg #[v0,v1,v2])∧BR3 v0 v1 v2 g w'∧Pure w w'∧BFr w.heap.size v0 v1 v2
structure BX (n:Nat) (v0 v1 v2:Value) (g:Bag) (W:World):Prop where
 b:W.heap[n]?=some (.cells #[v0,v1,v2] 34 (0,0))
 r:BR3 v0 v1 v2 g W
theorem BX.pure {n:Nat} {v0 v1 v2:Value} {g:Bag} {W W' : World} (h:BX n v0 v1 v2 g W) (hp:Pure W W'):BX n v0 v1 v2 g W':=⟨(hp.block _ (lob h.b)).trans h.b,h.r.pure hp⟩
theorem BX.cells {n:Nat} {v0 v1 v2:Value} {g:Bag} {W:World} (h:BX n v0 v1 v2 g W):W.cell? ⟨n,0,none⟩=some v0∧W.cell? ⟨n,1,none⟩=some v1∧W.cell? ⟨n,2,none⟩=some v2:=⟨cob h.b 0,cob h.b 1,cob h.b 2⟩
theorem BX.made {w:World} {v0 v1 v2:Value} {g:Bag} (h:BR3 v0 v1 v2 g w):BX w.heap.size v0 v1 v2 g (w.alloc (.cells #[v0,v1,v2] 34)):=⟨ban _ _,h.pure qp⟩
def RsB (s:Nat) (W:World):Prop:=W.heap[s]?=some (.cells #[.slice none 0 0,.slice none 0 0,.slice none 0 0] 34 (0,0))
theorem RsB.cells {s:Nat} {W:World} (e:RsB s W):W.cell? ⟨s,0,none⟩=some (.slice none 0 0)∧W.cell? ⟨s,1,none⟩=some (.slice none 0 0)∧W.cell? ⟨s,2,none⟩=some (.slice none 0 0)∧W.frozen? ⟨s,0,none⟩=false∧W.frozen? ⟨s,1,none⟩=false∧W.frozen? ⟨s,2,none⟩=false :=
 ⟨cob e 0,cob e 1,cob e 2,fob e 0,fob e 1,fob e 2⟩
theorem RsB.go {s:Nat} {W W' : World} (h:Hid (RsB s W)) (hp:Pure W W'):Hid (RsB s W')∧W'.cell? ⟨s,0,none⟩=some (.slice none 0 0)∧W'.cell? ⟨s,1,none⟩=some (.slice none 0 0)∧W'.cell? ⟨s,2,none⟩=some (.slice none 0 0)∧W'.frozen? ⟨s,0,none⟩=false∧W'.frozen? ⟨s,1,none⟩=false∧W'.frozen? ⟨s,2,none⟩=false:=by
 have e:RsB s W':=(hp.block _ (lob h.out)).trans h.out
 exact ⟨e,e.cells⟩
theorem RsB.grown {s:Nat} {W W' : World} {r:Option Nat} (h:Hid (RsB s W)) (hg:W.grownBy W' r) (hr:r≠some s):Hid (RsB s W')∧W'.cell? ⟨s,0,none⟩=some (.slice none 0 0)∧W'.cell? ⟨s,1,none⟩=some (.slice none 0 0)∧W'.cell? ⟨s,2,none⟩=some (.slice none 0 0)∧W'.frozen? ⟨s,0,none⟩=false∧W'.frozen? ⟨s,1,none⟩=false∧W'.frozen? ⟨s,2,none⟩=false:=by
 have e:RsB s W':=(hg.block _ (lob h.out) (fun e=>hr e.symm)).trans h.out
 exact ⟨e,e.cells⟩
theorem bag_ret {w w4:World} {s:Nat} {x y z v0 v1 v2:Value} {g:Bag} (hres:w4.heap[s]?=some (.cells #[x,y,z] 34 (0,0))) (hs:w.heap.size≤s) (hp:Pure w w4) (hr:BR3 v0 v1 v2 g w4) (hf:BFr (s+1) v0 v1 v2) :
 (((w4.setCell ⟨s,0,none⟩ v0).setCell ⟨s,1,none⟩ v1).setCell ⟨s,2,none⟩ v2).cell? ⟨s,0,none⟩=some v0∧(((w4.setCell ⟨s,0,none⟩ v0).setCell ⟨s,1,none⟩ v1).setCell ⟨s,2,none⟩ v2).cell? ⟨s,1,none⟩=some v1∧(((w4.setCell ⟨s,0,none⟩ v0).setCell ⟨s,1,none⟩ v1).setCell ⟨s,2,none⟩ v2).cell? ⟨s,2,none⟩=some v2∧BagO w g (.returned (.agg #[v0,v1,v2])) (((w4.setCell ⟨s,0,none⟩ v0).setCell ⟨s,1,none⟩ v1).setCell ⟨s,2,none⟩ v2):=by
 have hb:=set3 hres v0 v1 v2
 have hkf:=kept3 w4 s v0 v1 v2
 have q:Kept (fun k=>w.heap.size≤k) w (((w4.setCell ⟨s,0,none⟩ v0).setCell ⟨s,1,none⟩ v1).setCell ⟨s,2,none⟩ v2):=hp.kept.trans (hkf.mono (fun k _ e=>by omega))
 exact ⟨cob hb 0,cob hb 1,cob hb 2,_,_,_,rfl,hr.kept hkf (fun k hk e=>by have:=hf.1 k hk;omega) (fun k hk e=>by have:=hf.2.1 k hk;omega) (fun k hk e=>by have:=hf.2.2 k hk;omega),q.below (Nat.le_refl _) (fun k hk e=>by omega),hf.mono oe⟩
structure BL (o:Nat) (w6:World) (y0 y1 y2:Value) (L:List Msg) (W:World):Prop where
 out:W.heap[o]?=some (.cells #[y0,y1,y2] 34 (0,0))
 r0:W.ownsRow w6.heap.size 43 5 y0 L.length (mvs L)
 k:Kept (fun k=>k=o) w6 W
theorem BL.pure {o:Nat} {w6 W W' : World} {y0 y1 y2:Value} {L:List Msg} (h:BL o w6 y0 y1 y2 L W) (hp:Pure W W'):BL o w6 y0 y1 y2 L W' :=
 ⟨(hp.block _ (lob h.out)).trans h.out,own_pure h.r0 hp,h.k.trans hp.kept⟩
theorem BL.cells {o:Nat} {w6 W:World} {y0 y1 y2:Value} {L:List Msg} (h:BL o w6 y0 y1 y2 L W):W.cell? ⟨o,0,none⟩=some y0∧W.cell? ⟨o,1,none⟩=some y1∧W.cell? ⟨o,2,none⟩=some y2∧W.frozen? ⟨o,0,none⟩=false :=
 ⟨cob h.out 0,cob h.out 1,cob h.out 2,fob h.out 0⟩
theorem BL.grow {o:Nat} {w6 W W' : World} {y0 y1 y2 v' : Value} {L L' : List Msg} (h:BL o w6 y0 y1 y2 L W) (hg:W.grownBy W' y0.ownBlock) (hv:W'.ownsRow w6.heap.size 43 5 v' L'.length (mvs L')) (ho:o<w6.heap.size) :
 W'.heap[o]?=some (.cells #[y0,y1,y2] 34 (0,0))∧BL o w6 v' y1 y2 L' (W'.setCell ⟨o,0,none⟩ v'):=by
 have hb:W'.heap[o]?=some (.cells #[y0,y1,y2] 34 (0,0)):=(hg.block o (lob h.out) (fun e=>own_ne h.r0 ho e.symm)).trans h.out
 refine ⟨hb,?_,own_setCell hv _ ho _,(h.k.grown hg (fun k hk hlt=>by have:=(h.r0.lt k hk).1;omega)).setCell (fun _=>rfl) _⟩
 have:=bsc hb 0 v';simpa using this
theorem msg_lit_cells (w:World) (m:Msg):∀j u,(mvs [m])[j]?=some u→(w.alloc (.cells #[.int .i64 m.1.1,.int .i64 m.1.2,.string (bs m.2.1),.string (bs m.2.2.1),.int .i64 m.2.2.2] 43)).cell? ((⟨w.heap.size,0,none⟩ : Addr).add j)=some u:=by
 intro j u hj
 rw [Addr.add_lit,Nat.zero_add,World.cell?_alloc_new]
 simpa [mvs,mcells] using hj
def mnode (l:List Msg) (x:Int):List Msg:=l.filter fun m=>m.1.1 == x
def bpart (g:Bag) (x:Int):Bag:=(mnode g.1 x,Pt g.2 x)
end
section
open Go.RowKit Go.Maps Go.Shelf Go.Sort
theorem filt_take (p:Msg→Bool) (l:List Msg) (k:Nat) (h:k<l.length):(l.take (k+1)).filter p=(l.take k).filter p++if p (l.getD k m0) then [l.getD k m0] else []:=by
 rw [take_succ_m l k h,List.filter_append];simp [List.filter_cons]
theorem BL.push {o:Nat} {w6 W:World} {y0 y1 y2:Value} {Y:List Msg} (h:BL o w6 y0 y1 y2 Y W) (ho:o<w6.heap.size) (z:Msg) (c:Obj) :
 ∀(v' : Value) (w' : World),w'.ownsRow w6.heap.size 43 5 v' (Y.length+1) (mvs Y++mvs [z])→(W.drew.alloc c).grownBy w' y0.ownBlock→w'.heap[o]?=some (.cells #[y0,y1,y2] 34 (0,0))∧BL o w6 v' y1 y2 (Y++[z]) (w'.setCell ⟨o,0,none⟩ v'):=fun v' w' h1 h2 =>
 (h.pure (show Pure W (W.drew.alloc c) from qv.alloc (Nat.le_refl _) _)).grow h2 (by rw [mvs_append,List.length_append];exact h1) ho
end
section
set_option maxHeartbeats 4000000
set_option maxRecDepth 8000
open Go.RowKit Go.Maps Go.Shelf Go.Sort
def bremove (g:Bag) (d:Dot):Bag:=(g.1.filter fun m=>!decide (m.1=d),Ad g.2 [d])
def BagT (w:World) (g:Bag) (n:Int) (e:Ending) (w' : World):Prop:=∃v0 v1 v2,e=.returned (.tuple #[.agg #[v0,v1,v2],.int .i64 n])∧BR3 v0 v1 v2 g w'∧Pure w w'∧BFr w.heap.size v0 v1 v2
theorem BagO.tup {w w' : World} {g:Bag} {v0 v1 v2:Value} (n:Int) (h:BagO w g (.returned (.agg #[v0,v1,v2])) w'):BagT w g n (.returned (.tuple #[.agg #[v0,v1,v2],.int .i64 n])) w':=by
 obtain ⟨u0,u1,u2,e,h1,h2,h3⟩:=h
 injection e with e
 obtain ⟨rfl,rfl,rfl⟩:=agg3 e
 exact ⟨_,_,_,rfl,h1,h2,h3⟩
theorem BR3.nil (W:World):BR3 (.slice none 0 0) (.slice none 0 0) (.slice none 0 0) ([],[],[]) W:=⟨Row.nil _ _,Row.nil _ _,Row.nil _ _⟩
theorem BFr.nil (n:Nat):BFr n (.slice none 0 0) (.slice none 0 0) (.slice none 0 0):=⟨fun k hk=>by simp [Value.rb] at hk,fun k hk=>by simp [Value.rb] at hk,fun k hk=>by simp [Value.rb] at hk⟩
theorem rremove_ok (v0 v1 v2:Value) (g:Bag) (d:Dot) (w:World) (hr:BR3 v0 v1 v2 g w) (hd:dchk d=true) (hl0:g.1.length≤100000) (hl:g.2.1.length+g.2.2.length+1≤1000) (hb:∀d ∈ g.2.1,0≤d.2∧d.2≤1152921504606846976) :
 Calls Tryz.prog 48 #[.agg #[v0,v1,v2],dv d] w (BagT w (bremove g d) 0):=by
 obtain ⟨L,B,C⟩:=g
 obtain ⟨x,y⟩:=d
 dsimp only at hl0 hl hb
 have heq:=dot_eqIn
 obtain ⟨i0,hi,hz0,hz1,hz2⟩:=ipt infoMsg
 have hbp:=qh (bremove (L,B,C) (x,y)=(L.filter (fun m=>!decide (m.1=(x,y))),Ad (B,C) [(x,y)])) (rfl)
 have hlt:=hr.lt
 obtain ⟨h0,h1,h2⟩:=hr
 dsimp only at h0 h1 h2
 obtain ⟨a0,c0,rfl⟩:=h0.shape
 obtain ⟨a1,c1,rfl⟩:=h1.shape
 obtain ⟨a2,c2,rfl⟩:=h2.shape
 obtain ⟨wz,hwz⟩:=qe (((w.alloc (.cells #[.slice a0 L.length c0,.slice a1 B.length c1,.slice a2 C.length c2] 34)).alloc (.cells #[.int .i64 x,.int .i64 y] 28)).alloc (.cells #[.slice none 0 0,.slice none 0 0,.slice none 0 0] 34))
 have Hpz:=qh (Pure w wz) (by rw [hwz];exact (qp.alloc qb _).alloc qc _)
 have hsz:wz.heap.size=w.heap.size+3:=by rw [hwz];simp
 have n1:=ban (w.alloc (.cells #[.slice a0 L.length c0,.slice a1 B.length c1,.slice a2 C.length c2] 34)) (.cells #[.int .i64 x,.int .i64 y] 28)
 have n2:=ban ((w.alloc (.cells #[.slice a0 L.length c0,.slice a1 B.length c1,.slice a2 C.length c2] 34)).alloc (.cells #[.int .i64 x,.int .i64 y] 28)) (.cells #[.slice none 0 0,.slice none 0 0,.slice none 0 0] 34)
 simp only [World.size_alloc] at n1 n2
 have hbk:Hid (wz.heap[w.heap.size]?=some (.cells #[.slice a0 L.length c0,.slice a1 B.length c1,.slice a2 C.length c2] 34 (0,0))∧wz.heap[w.heap.size+1]?=some (.cells #[.int .i64 x,.int .i64 y] 28 (0,0))∧RsB (w.heap.size+1+1) wz):=by
  show _∧_∧wz.heap[w.heap.size+1+1]?=_
  rw [hwz]
  exact ⟨bao (bao (ban _ _) _) _,bao n1 _,n2⟩
 clear n1 n2
 have hBox:Hid (∀W,Pure wz W→(W.cell? ⟨w.heap.size,0,none⟩=some (.slice a0 L.length c0)∧W.cell? ⟨w.heap.size,1,none⟩=some (.slice a1 B.length c1)∧W.cell? ⟨w.heap.size,2,none⟩=some (.slice a2 C.length c2)∧W.cell? ⟨w.heap.size+1,0,none⟩=some (.int .i64 x)∧W.cell? ⟨w.heap.size+1,1,none⟩=some (.int .i64 y))):=fun W hW=>by
  have e0:=(hW.block _ (lob hbk.out.1)).trans hbk.out.1
  have e1:=(hW.block _ (lob hbk.out.2.1)).trans hbk.out.2.1
  exact ⟨cob e0 0,cob e0 1,cob e0 2,cob e1 0,cob e1 1⟩
 have hchk:=hid (fun W=>(show Calls _ _ _ _ _ from by have:=rchk_any (x,y) W;rw [hd] at this;exact this))
 unfold dv at *
 dsimp only at hchk ⊢
 have hp:=hid (fun W (hW:Pure wz W) vs (hv:Dots W vs [(x,y)])=>radd_any (.slice a1 B.length c1) (.slice a2 C.length c2) vs B C [(x,y)] W (Row.pure h1 (Hpz.out.then_ hW)) (Row.pure h2 (Hpz.out.then_ hW)) hv qc hb)
 have hlit:=hid (fun W:World=>(show Dots (W.alloc (.cells #[.int .i64 x,.int .i64 y] 28)) (.slice (some ⟨W.heap.size,0,none⟩) 1 1) [(x,y)] from dots_lit W x y))
 have H0:=hid h0
 have Hlt:=hid hlt.1
 have Hsz:=hid hsz
 clear h0 h1 h2 hlt hsz hd hb
 go_enter Tryz.func48,Tryz.ntmps48
 obtain ⟨f0,f1,f2,f3,f4⟩:=hBox.out wz (Below.refl _ _)
 rw [hwz] at f0 f1 f2 f3 f4
 go_wp2_with fail
 rw [←hwz]
 clear hwz f0 f1 f2 f3 f4
 refine (hchk.out wz).mono ?_
 rintro e w1 ⟨rfl,hp1⟩
 obtain ⟨f0,f1,f2,f3,f4⟩:=hBox.out w1 hp1
 have Hp1:=hid hp1
 obtain ⟨wa,hwa⟩:=qe (w1.alloc (.cells #[.int .i64 x,.int .i64 y] 28))
 have hpa:Pure w1 wa:=by rw [hwa];exact qp
 have hla:=hlit.out w1
 rw [←hwa] at hla
 have Hadd:=hid (hp.out wa (Hp1.out.then_ hpa) _ hla)
 have Hpa:=hid (Hp1.out.then_ hpa)
 clear hp1 hp hlit hchk hla hpa
 go_wp2_with fail
 rw [←hwa]
 clear hwa
 refine Hadd.out.mono ?_
 rintro e w2 ⟨u1,u2,rfl,hd1,hd2,hp2,hg1,hg2⟩
 have hAd:=qh (Ad (B,C) [(x,y)]=cjoin B C [] (dsort ([(x,y)].filter dchk))) (rfl)
 generalize cjoin B C [] (dsort ([(x,y)].filter dchk))=K at *
 obtain ⟨K1,K2⟩:=K
 dsimp only at hd1 hd2
 obtain ⟨x1,k1,rfl⟩:=hd1.shape
 obtain ⟨x2,k2,rfl⟩:=hd2.shape
 obtain ⟨w3,hw3⟩:=qe (w2.alloc (.cells #[.slice none 0 0,.slice x1 K1.length k1,.slice x2 K2.length k2] 34))
 have hp3:Pure w2 w3:=by rw [hw3];exact qp
 have hs3:w3.heap.size=w2.heap.size+1:=by rw [hw3];simp
 have ho3:w3.heap[w2.heap.size]?=some (.cells #[.slice none 0 0,.slice x1 K1.length k1,.slice x2 K2.length k2] 34 (0,0)):=by rw [hw3];exact ban _ _
 have Hp3:=hid (Hpa.out.then_ (hp2.then_ hp3))
 have hs2:=hp2.size
 have hsa:=Hpa.out.size
 have hsz:=Hsz.out
 have HF:Hid (∀W,Kept (fun k=>k=w2.heap.size) w3 W→(W.cell? ⟨w.heap.size,0,none⟩=some (.slice a0 L.length c0)∧W.cell? ⟨w.heap.size+1,0,none⟩=some (.int .i64 x)∧W.cell? ⟨w.heap.size+1,1,none⟩=some (.int .i64 y)∧Msgs W (.slice a0 L.length c0) L∧Dots W (.slice x1 K1.length k1) K1∧Dots W (.slice x2 K2.length k2) K2∧RsB (w.heap.size+1+1) W)):=fun W hW=>by
  have e0:=(Hp3.out.block _ (lob hbk.out.1)).trans hbk.out.1
  have e1:=(Hp3.out.block _ (lob hbk.out.2.1)).trans hbk.out.2.1
  have e2:=(Hp3.out.block _ (lob hbk.out.2.2)).trans hbk.out.2.2
  have e0':=(hW.block _ (lob e0) oe).trans e0
  have e1':=(hW.block _ (lob e1) oe).trans e1
  have e2':=(hW.block _ (lob e2) oe).trans e2
  exact ⟨cob e0' 0,cob e1' 0,cob e1' 1,Row.kept (Row.pure H0.out (Hpz.out.then_ Hp3.out)) hW (fun k hk e=>by have:=Hlt.out k hk;omega),Row.kept (Row.pure hd1 hp3) hW (fun k hk e=>by have:=Row.lt hd1 k hk;omega),Row.kept (Row.pure hd2 hp3) hW (fun k hk e=>by have:=Row.lt hd2 k hk;omega),e2'⟩
 have Hst:=qh (BL w2.heap.size w3 (.slice none 0 0) (.slice x1 K1.length k1) (.slice x2 K2.length k2) [] w3) (⟨ho3,World.ownsRow_nil _ _ _ _,Kept.refl _ _⟩)
 have Ho:=hid (show w2.heap.size<w3.heap.size by omega)
 have Hs2:=hid (show w.heap.size+3≤w2.heap.size by omega)
 have Hfr:=qh ((∀k,(Value.slice x1 K1.length k1).rb=some k→w.heap.size+3≤k)∧(∀k,(Value.slice x2 K2.length k2).rb=some k→w.heap.size+3≤k)) (⟨fun k hk=>by have:=hg1 k hk;omega,fun k hk=>by have:=hg2 k hk;omega⟩)
 clear f0 f1 f2 f3 f4 Hadd hd1 hd2 hp2 hg1 hg2 hp3 hs3 ho3 hs2 hsz hsa
 go_wp2_with fail
 rw [←hw3]
 clear hw3
 go_loopw [8] (fun i wr=>∃(k:Nat) (y0:Value),k≤L.length∧i=.int .i64 k∧BL w2.heap.size w3 y0 (.slice x1 K1.length k1) (.slice x2 K2.length k2) ((L.take k).filter (fun m=>!decide (m.1=(x,y)))) wr) (fun i _=>L.length-(RowKit.intOf i).toNat)
 case atStart=>exact ⟨0,_,Nat.zero_le _,rfl,Hst.out⟩
 case round =>
  obtain ⟨k,y0,hk,rfl,hB⟩:=hrel
  obtain ⟨g0,g1,g2,hL,-,-,-⟩:=HF.out wr hB.k
  by_cases hlt:k<L.length
  ·have hlt' : (k:Int)<(L.length:Int):=by omega
   obtain ⟨b,off,rfl,hb,z0,z1,z2,z3,z4⟩:=Msgs.get hL hlt
   have Hstep:=hid (filt_take (fun m=>!decide (m.1=(x,y))) L k hlt)
   have hYl:((L.take k).filter (fun m=>!decide (m.1=(x,y)))).length≤100000:=Nat.le_trans (List.length_filter_le _ _) (by rw [List.length_take];omega)
   generalize (L.take k).filter (fun m=>!decide (m.1=(x,y)))=Y at *
   generalize L.getD k m0=z at *
   obtain ⟨a9,c9,rfl⟩:=osd hB.r0
   have HB:=hid hB
   obtain ⟨o0,o1,o2,o3⟩:=hB.cells
   have hol:=lob hB.out
   have hsl:=World.block_lt_of_cell? wr _ g0
   have hgs:=hB.k.size
   by_cases hx:z.1=(x,y)
   ·rw [if_neg (by simp [hx]),List.append_nil] at Hstep
    obtain ⟨⟨zx,zy⟩,zq,zb,zc⟩:=z
    simp only [Prod.mk.injEq] at hx
    obtain ⟨hx1,hx2⟩:=hx
    dsimp only at z0 z1 z2 z3 z4
    subst hx1
    subst hx2
    clear hB hL
    go_wp2_with fail
    go_quiet (fail)
    go_wp2
    go_roundw
    case rel=>exact ⟨k+1,_,by omega,by go_num,by rw [Hstep.out];exact HB.out.pure (pdN _ _)⟩
    case measure=>simp [RowKit.intOf];omega
   ·have Hgs:=hid hgs
    rw [if_pos (by simpa using hx)] at Hstep
    obtain ⟨⟨zx,zy⟩,zq,zb,zc⟩:=z
    have hx' : (decide (zx=x) && decide (zy=y))=false:=by
     rw [Bool.and_eq_false_iff,decide_eq_false_iff_not,decide_eq_false_iff_not]
     by_cases h1:zx=x
     ·right;intro h2;exact hx (by rw [h1,h2])
     ·exact .inl h1
    dsimp only at z0 z1 z2 z3 z4
    have hlit:=hid (fun W=>msg_lit_cells W ((zx,zy),zq,zb,zc))
    have HM:=hid (fun W (hW:Pure wr W)=>(Msgs.get (Row.pure hL hW:Msgs W _ L) hlt))
    have Hz:=qh (∀W,Pure wr W→W.cell? ⟨b,off+k*5,none⟩=some (.int .i64 zx)∧W.cell? ⟨b,off+k*5+1,none⟩=some (.int .i64 zy)∧W.cell? ⟨b,off+k*5+2,none⟩=some (.string (bs zq))∧W.cell? ⟨b,off+k*5+3,none⟩=some (.string (bs zb))∧W.cell? ⟨b,off+k*5+4,none⟩=some (.int .i64 zc)∧W.cell? ⟨w.heap.size,0,none⟩=some (.slice (some ⟨b,off,none⟩) L.length c0)) (fun W hW=>by
     have hk:∀{p v},wr.cell? p=some v→W.cell? p=some v:=fun {p v} h=>(hW.cell (World.block_lt_of_cell? wr _ h)).trans h
     exact ⟨hk z0,hk z1,hk z2,hk z3,hk z4,hk g0⟩)
    clear hB hL hx HM
    have heq2:=fun W=>(heq W zx zy x y)
    rw [hx'] at heq2
    go_wp2_with fail
    go_quiet (fail)
    obtain ⟨wq,hwq⟩:=qe (wr.drewN nq)
    have Hq:=qh (Pure wr wq) (by rw [hwq];exact pdN _ _)
    rw [←hwq]
    clear hwq g0 g1 g2 z0 z1 z2 z3 z4 o0 o1 o2 o3 hol hsl hgs heq2
    have HB2:=hid (HB.out.pure Hq.out)
    have hpush:=hid (HB2.out.push Ho.out ((zx,zy),zq,zb,zc))
    obtain ⟨z0,z1,z2,z3,z4,g0⟩:=Hz.out wq Hq.out
    obtain ⟨o0,o1,o2,o3⟩:=HB2.out.cells
    have hol:=lob HB2.out.out
    have hsl:=World.block_lt_of_cell? wq _ g0
    have hgs:=HB2.out.k.size
    go_wp2_with fail
    go_region_law (refine step_append_own rfl (.tmp 36) (.tmp 42) 29 rfl w3.heap.size 43 i0 (.agg #[.int .i64 0,.int .i64 0,.string ⟨#[]⟩,.string ⟨#[]⟩,.int .i64 0]) 5 56 Tryz.underlying29 hi hz0 hz1 hz2 rfl qd (.slice a9 Y.length c9) Y.length (mvs Y) (by simp [Act.eval]) (World.ownsRow.alloc HB2.out.r0 _) ⟨wq.heap.size,0,none⟩ 1 1 (mvs [((zx,zy),zq,zb,zc)]) (by simp [Act.eval]) rfl (hlit.out _) (mvs_one _) (by unfold maxLen;omega) oe qc ?_;intro v' w' hown' hg';obtain ⟨hb',hL'⟩:=hpush.out _ v' w' hown' hg';have s1:w'.cell? ⟨w2.heap.size,0,none⟩=some (.slice a9 Y.length c9):=cob hb' 0;have s2:w'.frozen? ⟨w2.heap.size,0,none⟩=false:=fob hb' 0;clear hb';obtain ⟨a8,c8,rfl⟩:=osd hown';have HL11:=hid hL';clear hown' hg' hL')
    all_goals
     go_wp2
     go_roundw
     (case rel=>exact ⟨k+1,_,by omega,by go_num,by rw [Hstep.out];exact HL11.out⟩)
     (case measure=>simp [RowKit.intOf];omega)
  ·have hlt' : ¬(k:Int)<(L.length:Int):=by omega
   rw [List.take_of_length_le oe] at hB
   obtain ⟨g0,g1,g2,-,hd1,hd2,hR⟩:=HF.out wr hB.k
   obtain ⟨o0,o1,o2,o3⟩:=hB.cells
   obtain ⟨r0,r1,r2,r3,r4,r5⟩:=hR.cells
   generalize hY:L.filter (fun m=>!decide (m.1=(x,y)))=Y at *
   have HY:=hid hY
   clear hY
   obtain ⟨a9,c9,rfl⟩:=osd hB.r0
   have hpw:Pure w wr:=by
    have h2:Kept (fun j=>w.heap.size≤j) w wr:=(Pure.kept (Hpz.out.then_ Hp3.out)).trans (hB.k.mono (fun j _ e=>by have:=Hs2.out;omega))
    exact h2.below (Nat.le_refl _) (fun j hj e=>by omega)
   obtain ⟨t0,t1,t2,hfin⟩:=bag_ret (w:=w) (g:=bremove (L,B,C) (x,y)) hR oe hpw (by rw [hbp.out,hAd.out];exact (show BR3 _ _ _ (Y,K1,K2) wr from ⟨Row.of_own hB.r0,hd1,hd2⟩))
    ⟨fun j hj=>by have:=(hB.r0.lt j (rb_own hj)).1;have:=Ho.out;have:=Hs2.out;omega,fun j hj=>by have:=Hfr.out.1 j hj;omega,fun j hj=>by have:=Hfr.out.2 j hj;omega⟩
   have T0:=hid t0
   have T1:=hid t1
   have T2:=hid t2
   have Hfin:=hid hfin.tup
   clear t0 t1 t2 hfin hpw hB hL hd1 hd2 hR
   go_wp2
   exact bodyPost_ret (v:=.tuple #[.agg #[.slice a9 Y.length c9,.slice x1 K1.length k1,.slice x2 K2.length k2],.int .i64 0]) (by simp [results,Tryz.results48,go_sem,T0.out,T1.out,T2.out]) rfl (Hfin.out 0)
end
section
open Go.RowKit Go.Maps Go.Shelf Go.Sort
def MR (l:List Msg):Prop:=l.Pairwise fun x y=>DL x.1 y.1
theorem mr_eq:∀{l k:List Msg},MR l→MR k→(∀d,d ∈ l↔d ∈ k)→l=k
 | [],[],_,_,_=>rfl
 | [],b::k,_,_,h=>absurd ((h b).2 qb) qb
 | a::l,[],_,_,h=>absurd ((h a).1 qb) qb
 | a::l,b::k,h1,h2,h=>by
   obtain ⟨p1,p2⟩:=List.pairwise_cons.1 h1
   obtain ⟨q1,q2⟩:=List.pairwise_cons.1 h2
   have hab:a=b:=by
    rcases List.mem_cons.1 ((h a).1 qb) with e|e
    ·exact e
    ·rcases List.mem_cons.1 ((h b).2 qb) with e'|e'
     ·exact e'.symm
     ·exact absurd ((q1 a e).trans (p1 b e')) (DL.irrefl b.1)
   subst hab
   congr 1
   refine mr_eq p2 q2 (fun d=>⟨fun hd=>?_,fun hd=>?_⟩)
   ·rcases List.mem_cons.1 ((h d).1 (List.mem_cons_of_mem _ hd)) with e|e
    ·subst e;exact absurd (p1 _ hd) (DL.irrefl _)
    ·exact e
   ·rcases List.mem_cons.1 ((h d).2 (List.mem_cons_of_mem _ hd)) with e|e
    ·subst e;exact absurd (q1 _ hd) (DL.irrefl _)
    ·exact e
theorem MR.rise {l:List Msg} (h:MR l):Rise (l.map (·.1)):=by unfold Rise;rw [List.pairwise_map];exact h
theorem MR.filter {l:List Msg} (h:MR l) (p:Msg→Bool):MR (l.filter p):=List.Pairwise.sublist List.filter_sublist h
theorem MR.one {l:List Msg} (h:MR l):∀{x y:Msg},x ∈ l→y ∈ l→x.1=y.1→x=y:=by
 induction l with
 | nil=>intro x y hx;simp at hx
 | cons a l ih =>
   obtain ⟨p1,p2⟩:=List.pairwise_cons.1 h
   intro x y hx hy e
   rcases List.mem_cons.1 hx with rfl|hx1 <;> rcases List.mem_cons.1 hy with rfl|hy1
   ·rfl
   ·have:=p1 y hy1;rw [e] at this;exact absurd this (DL.irrefl _)
   ·have:=p1 x hx1;rw [e] at this;exact absurd this (DL.irrefl _)
   ·exact ih p2 hx1 hy1 e
def MD (l:List Msg):Prop:=l.Pairwise fun x y=>x.1≠y.1
theorem MR.md {l:List Msg} (h:MR l):MD l:=List.Pairwise.imp (fun {a b} hab (e:a.1=b.1)=>DL.irrefl b.1 (by rw [e] at hab;exact hab)) h
theorem MD.one {l:List Msg} (h:MD l):∀{x y:Msg},x ∈ l→y ∈ l→x.1=y.1→x=y:=by
 induction l with
 | nil=>intro x y hx;simp at hx
 | cons a l ih =>
   obtain ⟨p1,p2⟩:=List.pairwise_cons.1 h
   intro x y hx hy e
   rcases List.mem_cons.1 hx with rfl|hx1 <;> rcases List.mem_cons.1 hy with rfl|hy1
   ·rfl
   ·exact absurd e (p1 y hy1)
   ·exact absurd e.symm (p1 x hx1)
   ·exact ih p2 hx1 hy1 e
theorem msort_mem (l:List Msg) (m:Msg):m ∈ msort l↔m ∈ l:=by
 unfold msort mof
 rw [List.mem_flatMap]
 constructor
 ·rintro ⟨d,_,h⟩;exact (List.mem_filter.1 h).1
 ·intro h
  exact ⟨m.1,((dsort_spec _).2 _).2 (List.mem_map.2 ⟨m,h,rfl⟩),List.mem_filter.2 ⟨h,by simp⟩⟩
theorem msort_rise {l:List Msg} (h:MD l):MR (msort l):=by
 unfold msort MR
 rw [List.pairwise_flatMap]
 refine ⟨fun d _=>?_,?_⟩
 ·refine List.Pairwise.imp_of_mem (fun {a b} ha hb hab=>?_) (List.Pairwise.sublist List.filter_sublist h)
  have h1:=(List.mem_filter.1 ha).2
  have h2:=(List.mem_filter.1 hb).2
  simp only [decide_eq_true_eq] at h1 h2
  exact absurd (h1.trans h2.symm) hab
 ·refine List.Pairwise.imp (fun {a b} hab x hx y hy=>?_) (dsort_spec _).1
  have h1:=(List.mem_filter.1 hx).2
  have h2:=(List.mem_filter.1 hy).2
  simp only [decide_eq_true_eq] at h1 h2
  rw [h1,h2];exact hab
structure BOk (U:List Dot) (g:Bag):Prop where
 ok:COk g.2.1 g.2.2
 r:MR g.1
 seen:∀m ∈ g.1,chas g.2.1 g.2.2 m.1=true
 ti:∀d,chas g.2.1 g.2.2 d=true→d ∈ U
 may:∀m ∈ g.1,mmay m=true
theorem BOk.nil (U:List Dot):BOk U ([],[],[]):=⟨COk.nil,List.Pairwise.nil,by simp,fun d hd=>by obtain ⟨hk,h1|h1⟩:=chas_iff.1 hd <;> simp [cbase] at h1;unfold dok at hk;omega,by simp⟩
theorem BOk.mono {U V:List Dot} {g:Bag} (h:BOk U g) (hs:∀d ∈ U,d ∈ V):BOk V g:=⟨h.ok,h.r,h.seen,fun d hd=>hs d (h.ti d hd),h.may⟩
theorem BOk.sml {U:List Dot} {g:Bag} (h:BOk U g):Sml U.length g.2:=by
 refine ⟨h.ok,nodup_sub_len (rise_nodup (br_rise h.ok.br)) (fun d hd=>h.ti d ?_),nodup_sub_len (rise_nodup h.ok.cr) (fun d hd=>h.ti d (chas_cloud h.ok.cok hd))⟩
 exact chas_iff.2 ⟨h.ok.bok d hd,.inl (by rw [cbase_mem h.ok.br hd];exact Int.le_refl _)⟩
theorem BOk.len {U:List Dot} {g:Bag} (h:BOk U g):g.1.length≤U.length:=by
 have:=nodup_sub_len (rise_nodup h.r.rise) (k:=U) (fun d hd=>by
  obtain ⟨m,hm,rfl⟩:=List.mem_map.1 hd
  exact h.ti _ (h.seen m hm))
 simpa using this
theorem mmay_sm {m:Msg} (h:mmay m=true):SmallM m:=by
 unfold mmay at h
 simp only [Bool.and_eq_true,decide_eq_true_eq] at h
 obtain ⟨⟨⟨⟨⟨h1,h2⟩,h3⟩,h4⟩,h5⟩,h6⟩:=h
 have:=dchk_iff.1 h1
 unfold dok at this
 refine ⟨?_,h5,by omega,by omega,by omega⟩
 unfold Small;omega
theorem BOk.small {U:List Dot} {g:Bag} (h:BOk U g) (hU:U.length≤10000):SmallG g:=by
 have hs:=h.sml
 refine ⟨fun m hm=>mmay_sm (h.may m hm),fun d hd=>?_,fun d hd=>?_,Nat.le_trans h.len hU,Nat.le_trans hs.l0 oe,Nat.le_trans hs.l1 oe⟩
 ·have:=h.ok.bok d hd;unfold dok at this;unfold Small;omega
 ·have:=h.ok.cok d hd;unfold dok at this;unfold Small;omega
theorem mnode_mem {l:List Msg} {x:Int} {m:Msg}:m ∈ mnode l x↔m ∈ l∧m.1.1=x:=by unfold mnode;simp [List.mem_filter]
theorem BOk.part {U:List Dot} {g:Bag} (h:BOk U g) (x:Int):BOk U (bpart g x) :=
 ⟨Pt.ok h.ok x,h.r.filter _,fun m hm=>by
  obtain ⟨h1,h2⟩:=mnode_mem.1 hm
  show chas (Pt g.2 x).1 (Pt g.2 x).2 m.1=true
  rw [Pt.has h.ok,h.seen m h1,h2];simp,
  fun d hd=>by
   have hd' : chas (Pt g.2 x).1 (Pt g.2 x).2 d=true:=hd
   rw [Pt.has h.ok,Bool.and_eq_true] at hd'
   exact h.ti d hd'.1,fun m hm=>h.may m (mnode_mem.1 hm).1⟩
theorem BOk.remove {U:List Dot} {g:Bag} (h:BOk U g) {d:Dot} (hd:d ∈ U):BOk U (bremove g d) :=
 ⟨Ad.ok h.ok _,h.r.filter _,fun m hm=>by
  show chas (Ad g.2 [d]).1 (Ad g.2 [d]).2 m.1=true
  rw [Ad.has h.ok,h.seen m (List.mem_filter.1 hm).1,Bool.true_or],
  fun e he=>by
   have he' : chas (Ad g.2 [d]).1 (Ad g.2 [d]).2 e=true:=he
   rw [Ad.has h.ok,Bool.or_eq_true,Bool.and_eq_true,decide_eq_true_eq] at he'
   rcases he' with he'|he'
   ·exact h.ti e he'
   ·simp only [List.mem_singleton] at he';rw [he'.1];exact hd,
  fun m hm=>h.may m (List.mem_filter.1 hm).1⟩
theorem BOk.unseen {U:List Dot} {g:Bag} (h:BOk U g) {m:Msg} (hn:chas g.2.1 g.2.2 m.1=false):MD (g.1++[m]):=by
 unfold MD
 rw [List.pairwise_append]
 refine ⟨h.r.md,List.pairwise_singleton _ _,fun a ha b hb e=>?_⟩
 simp only [List.mem_singleton] at hb
 subst hb
 have:=h.seen a ha
 rw [e,hn] at this
 cases this
theorem BOk.put {U:List Dot} {g:Bag} (h:BOk U g) {m:Msg} (hm:mmay m=true) (hd:m.1 ∈ U) (hn:chas g.2.1 g.2.2 m.1=false):BOk U (bput g m):=by
 have hmem:∀x,x ∈ (bput g m).1↔x ∈ g.1∨x=m:=fun x=>by
  show x ∈ msort (g.1++[m])↔_
  rw [msort_mem];simp
 have hdc:dchk m.1=true:=by unfold mmay at hm;simp only [Bool.and_eq_true] at hm;exact hm.1.1.1.1.1
 refine ⟨Ad.ok h.ok [m.1],msort_rise (h.unseen hn),fun x hx=>?_,fun e he=>?_,fun x hx=>?_⟩
 ·show chas (Ad g.2 [m.1]).1 (Ad g.2 [m.1]).2 x.1=true
  rw [Ad.has h.ok]
  rcases (hmem x).1 hx with hx|rfl
  ·rw [h.seen x hx,Bool.true_or]
  ·simp [hdc]
 ·have he' : chas (Ad g.2 [m.1]).1 (Ad g.2 [m.1]).2 e=true:=he
  rw [Ad.has h.ok,Bool.or_eq_true,Bool.and_eq_true,decide_eq_true_eq] at he'
  rcases he' with he'|he'
  ·exact h.ti e he'
  ·simp only [List.mem_singleton] at he';rw [he'.1];exact hd
 ·rcases (hmem x).1 hx with hx|rfl
  ·exact h.may x hx
  ·exact hm
end
section
open Go.RowKit Go.Maps Go.Shelf Go.Sort
theorem pat {W W' : World} (h:Pure W W') {p:Addr} {v:Value} (e:W.cell? p=some v):W'.cell? p=some v:=(h.cell (World.block_lt_of_cell? W _ e)).trans e
def nn2 (d:Dot):Prop:=0≤d.1∧0≤d.2
def nnM (m:Msg):Prop:=nn2 m.1∧0≤m.2.2.2
theorem dok_nn {d:Dot} (h:dok d):nn2 d:=by unfold dok at h;unfold nn2;omega
theorem BOk.nn {U:List Dot} {g:Bag} (h:BOk U g):(∀m ∈ g.1,nnM m)∧(∀d ∈ g.2.1,nn2 d)∧∀d ∈ g.2.2,nn2 d :=
 ⟨fun m hm=>by
  have:=mmay_sm (h.may m hm)
  obtain ⟨h1,h2,_⟩:=this
  unfold Small at h1
  exact ⟨⟨h1.1,h1.2.2.1⟩,h2⟩,fun d hd=>dok_nn (h.ok.bok d hd),fun d hd=>dok_nn (h.ok.cok d hd)⟩
end
end Go.Proofs.YtdlpnhfgjficgaaGreat
