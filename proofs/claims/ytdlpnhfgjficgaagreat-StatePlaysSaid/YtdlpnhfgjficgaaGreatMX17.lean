import Derived.Test.YtdlpnhfgjficgaaGreatMX52
namespace Go.Proofs.YtdlpnhfgjficgaaGreat
section
set_option maxHeartbeats 4000000
set_option maxRecDepth 8000
open Go.RowKit Go.Maps Go.Shelf Go.Sort
def RdCtxP (T:TypeId) (b:Nat) (X:List Dot × List Dot) (s:RS) (w:World) (e:Ending) (w' : World):Prop:=∃v0 v1,e=.returned (.agg #[v0,v1])∧CR v0 v1 X w'∧(∀k,v0.rb=some k→w.heap.size≤k)∧(∀k,v1.rb=some k→w.heap.size≤k)∧RdAt T b s w'∧Kept (fun k=>k=b) w w'
theorem Dots.kept {S:Nat→Prop} {w w' : World} {v:Value} {l:List Dot} (h:Dots w v l) (hk:Kept S w w') (hS:∀k,v.rb=some k→¬S k):Dots w' v l:=Row.kept h hk hS
theorem kset (W:World) (n i:Nat) (v:Value):Kept (fun k=>k=n) W (W.setCell ⟨n,i,none⟩ v):=Kept.setCell (S:=fun k=>k=n) (Kept.refl _ _) (p:=⟨n,i,none⟩) (fun _=>rfl) v
theorem cread_any (b:Nat) (s:RS) (w:World) (h:RdAt 117 b s w) :
 Calls Tryz.prog 138 #[.pointer (some ⟨b,0,none⟩)] w (RdCtxP 117 b (rdCtx s).1 (rdCtx s).2 w):=by
 have hb:=h.lt
 have Hb:=hid hb
 have hrow:=hid (fun s W (hW:RdAt 117 b s W)=>dreadrow_any b s 1000 W hW qd qd)
 have hfine:=hid (fun s W (hW:RdAt 117 b s W)=>fine_any b s W hW)
 have hneg:=hid (fun s W (hW:RdAt 117 b s W)=>(show Calls _ _ _ _ _ from by have:=mintr_any b s (-1) W hW qd qd;rw [rdInt_neg (-1) qd] at this;exact this))
 have hchk:=hid (fun vb vc B C W h1 h2 l1 l2=>checkb_any vb vc B C W h1 h2 l1 l2)
 unfold cv at hchk
 unfold RdP at hneg
 unfold RdRowP at hrow
 have Hd:Hid (rdCtx s=match rdRow 1000 (rdRow 1000 s).2 with
  | (_,none)=>(([],[]),none)
  | (C,some r)=>if cchk (rdRow 1000 s).1 C then (((rdRow 1000 s).1,C),some r) else (([],[]),none)):=(show _=_ from rfl)
 have hl1:=rdRow_len s
 have hl2:=rdRow_len (rdRow 1000 s).2
 have hi1:=hid (hrow.out s)
 have hi2:=hid (hrow.out (rdRow 1000 s).2)
 generalize rdCtx s=R at *
 generalize rdRow 1000 (rdRow 1000 s).2=N2 at *
 generalize rdRow 1000 s=N1 at *
 obtain ⟨B,s1⟩:=N1
 obtain ⟨C,s2⟩:=N2
 dsimp only at hi1 hi2 Hd hl1 hl2
 clear hrow
 obtain ⟨wz,hwz⟩:=qe (w.alloc (.cells #[.slice none 0 0,.slice none 0 0] 32))
 have Hz:=qh (RdK 117 b s w wz) (by rw [hwz];exact (RdK.start h).alloc _)
 have Bz:=qh (wz.heap[w.heap.size]?=some (.cells #[.slice none 0 0,.slice none 0 0] 32 (0,0))) (by rw [hwz];exact ban _ _)
 have Sz:=qh (wz.heap.size=w.heap.size+1) (by rw [hwz];simp)
 clear h
 go_enter Tryz.func138,Tryz.ntmps138
 go_wp2_with fail
 rw [←hwz]
 clear hwz
 refine (hi1.out wz Hz.out.r).mono ?_
 rintro e w1 ⟨u0,rfl,hd1,hf1,hr1,hk1⟩
 obtain ⟨a0,c0,rfl⟩:=hd1.shape
 have Z1:=hid (block_kept Bz.out hk1 oe)
 have hlt1:=qh (w.heap.size+1≤w1.heap.size) (by have:=hk1.size;have:=Sz.out;omega)
 have hf1':=qh (∀k,(Value.slice a0 B.length c0).rb=some k→w.heap.size<k∧k<w1.heap.size) (fun k hk=>by have:=hf1 k hk;have:=Sz.out;have:=Row.lt hd1 k hk;omega)
 obtain ⟨v1,hv1⟩:=qe (w1.alloc (.cells #[.slice a0 B.length c0,.slice none 0 0] 32))
 have H1:=qh (RdK 117 b s1 w v1) (by rw [hv1];exact (Hz.out.next hr1 hk1).alloc _)
 have D1:=qh (Dots v1 (.slice a0 B.length c0) B) (by rw [hv1];exact Row.pure hd1 qp)
 have Y1:=qh (v1.heap[w1.heap.size]?=some (.cells #[.slice a0 B.length c0,.slice none 0 0] 32 (0,0))) (by rw [hv1];exact ban _ _)
 have Q1:=qh (v1.heap[w.heap.size]?=some (.cells #[.slice none 0 0,.slice none 0 0] 32 (0,0))) (by rw [hv1];exact bao Z1.out _)
 have S1:=qh (v1.heap.size=w1.heap.size+1) (by rw [hv1];simp)
 clear hr1 hk1 Z1 Bz Hz hi1 hd1 hf1
 go_wp2_with fail
 rw [←hv1]
 clear hv1
 generalize w1.heap.size=n at *
 refine (hi2.out v1 H1.out.r).mono ?_
 rintro e w2 ⟨u1,rfl,hd2,hf2,hr2,hk2⟩
 obtain ⟨a1,c1,rfl⟩:=hd2.shape
 have hf2':=qh (∀k,(Value.slice a1 C.length c1).rb=some k→n<k) (fun k hk=>by have:=hf2 k hk;have:=S1.out;omega)
 have Y2:=block_kept Y1.out hk2 (by have:=hlt1.out;omega)
 have Q2:=block_kept Q1.out hk2 oe
 have H2:=hid (H1.out.next hr2 hk2)
 have D2:=hid (Dots.kept D1.out hk2 (fun k hk e=>by have:=(hf1'.out k hk).1;omega))
 have q1:=cob Y2 1
 have f1:=fob Y2 1
 simp at q1
 obtain ⟨v2,hv2⟩:=qe (w2.setCell ⟨n,1,none⟩ (.slice a1 C.length c1))
 have K2:=qh (Kept (fun k=>k=n) w2 v2) (by rw [hv2];exact kset _ _ _ _)
 have D3:=qh (CR (.slice a0 B.length c0) (.slice a1 C.length c1) (B,C) v2) (⟨Dots.kept D2.out K2.out (fun k hk e=>by have:=(hf1'.out k hk).2;omega),Dots.kept hd2 K2.out (fun k hk e=>by have:=hf2'.out k hk;omega)⟩)
 have Y3:=qh (v2.heap[n]?=some (.cells #[.slice a0 B.length c0,.slice a1 C.length c1] 32 (0,0))) (by rw [hv2];have:=bsc Y2 1 (.slice a1 C.length c1);simpa using this)
 have Q3:=qh (v2.heap[w.heap.size]?=some (.cells #[.slice none 0 0,.slice none 0 0] 32 (0,0))) (by rw [hv2];exact bso Q2 _ (by show ¬n=_;have:=hlt1.out;omega) _)
 have H3:=qh (RdK 117 b s2 w v2) (by rw [hv2];exact H2.out.set (by have:=hlt1.out;omega) (by have:=hlt1.out;omega) _)
 clear hr2 hk2 Y1 Q1 H1 H2 hi2 Y2 Q2 hd2 hf2 D2 D1 K2
 go_wp2_with fail
 rw [←hv2]
 clear hv2 q1 f1
 refine (hfine.out s2 v2 H3.out.r).mono ?_
 rintro e w3 ⟨rfl,hp3⟩
 have H4:=hid (H3.out.pure hp3)
 have Y4:=(hp3.block _ (lob Y3.out)).trans Y3.out
 have Q4:=(hp3.block _ (lob Q3.out)).trans Q3.out
 have D4:=hid (D3.out.pure hp3)
 have HY4:=hid Y4
 have HQ4:=hid Q4
 have y0:=cob Y4 0
 have y1:=cob Y4 1
 have hnb:=qh (n≠b∧w.heap.size<n) (by have:=hlt1.out;omega)
 simp at y0 y1
 clear hp3 Y4 Q4 H3 Y3 Q3 D3
 cases s2 with
 | none =>
   have HR:=qh (R=(([],[]),none)) (Hd.out)
   go_wp2_with fail
   refine (hneg.out none w3 H4.out.r).mono ?_
   rintro e w4 ⟨rfl,hr4,hk4⟩
   have H5:=hid (H4.out.next hr4 hk4)
   have Q5:=block_kept HQ4.out hk4 oe
   have a0:=cob Q5 0
   have a1:=cob Q5 1
   have a2:=fob Q5 0
   have a3:=fob Q5 1
   simp at a0 a1
   have Hset:=qh (RdK 117 b none w ((w4.setCell ⟨w.heap.size,0,none⟩ (.slice none 0 0)).setCell ⟨w.heap.size,1,none⟩ (.slice none 0 0))) ((H5.out.set (Nat.le_refl _) oe _).set (Nat.le_refl _) oe _)
   have Bset:=hid (bsc (bsc Q5 0 (.slice none 0 0)) 1 (.slice none 0 0))
   clear hr4 hk4 Q5
   go_wp2
   exact bodyPost_ret (v:=.agg #[.slice none 0 0,.slice none 0 0]) (by simp [results,Tryz.results138,go_sem,cob Bset.out 0,cob Bset.out 1]) rfl ⟨_,_,rfl,by rw [HR.out];exact ⟨Row.nil _ _,Row.nil _ _⟩,fun k hk=>by simp [Value.rb] at hk,fun k hk=>by simp [Value.rb] at hk,by rw [HR.out];exact Hset.out.r,Hset.out.k⟩
 | some r =>
   have Hd2:=qh (R=if cchk B C then ((B,C),some r) else (([],[]),none)) (Hd.out)
   go_wp2_with fail
   refine (hchk.out _ _ B C w3 D4.out.1 D4.out.2 oe oe).mono ?_
   rintro e w4 ⟨rfl,hp4⟩
   have H5:=hid (H4.out.pure hp4)
   have Y5:=(hp4.block _ (lob HY4.out)).trans HY4.out
   have Q5:=(hp4.block _ (lob HQ4.out)).trans HQ4.out
   have D5:=hid (D4.out.pure hp4)
   unfold errOf
   cases hc:cchk B C with
   | false =>
     have HR:=qh (R=(([],[]),none)) (by rw [Hd2.out,hc];rfl)
     have HQ5:=hid Q5
     clear hp4 y0 y1 hc Y5 Q5
     go_wp2_with fail
     refine (hneg.out _ w4 H5.out.r).mono ?_
     rintro e w5 ⟨rfl,hr5,hk5⟩
     have H6:=hid (H5.out.next hr5 hk5)
     have Q6:=block_kept HQ5.out hk5 oe
     have a0:=cob Q6 0
     have a1:=cob Q6 1
     have a2:=fob Q6 0
     have a3:=fob Q6 1
     simp at a0 a1
     have Hset:=qh (RdK 117 b none w ((w5.setCell ⟨w.heap.size,0,none⟩ (.slice none 0 0)).setCell ⟨w.heap.size,1,none⟩ (.slice none 0 0))) ((H6.out.set (Nat.le_refl _) oe _).set (Nat.le_refl _) oe _)
     have Bset:=hid (bsc (bsc Q6 0 (.slice none 0 0)) 1 (.slice none 0 0))
     clear hr5 hk5 Q6
     go_wp2
     exact bodyPost_ret (v:=.agg #[.slice none 0 0,.slice none 0 0]) (by simp [results,Tryz.results138,go_sem,cob Bset.out 0,cob Bset.out 1]) rfl ⟨_,_,rfl,by rw [HR.out];exact ⟨Row.nil _ _,Row.nil _ _⟩,fun k hk=>by simp [Value.rb] at hk,fun k hk=>by simp [Value.rb] at hk,by rw [HR.out];exact Hset.out.r,Hset.out.k⟩
   | true =>
     have HR:=qh (R=((B,C),some r)) (by rw [Hd2.out,hc];rfl)
     have e0:=cob Q5 0
     have e1:=cob Q5 1
     have e2:=fob Q5 0
     have e3:=fob Q5 1
     have z0:=cob Y5 0
     have z1:=cob Y5 1
     simp at e0 e1 z0 z1
     have Hset:=qh (RdK 117 b (some r) w ((w4.setCell ⟨w.heap.size,0,none⟩ (.slice a0 B.length c0)).setCell ⟨w.heap.size,1,none⟩ (.slice a1 C.length c1))) ((H5.out.set (Nat.le_refl _) oe _).set (Nat.le_refl _) oe _)
     have Kset:=hid ((kset w4 w.heap.size 0 (.slice a0 B.length c0)).trans (kset _ w.heap.size 1 (.slice a1 C.length c1)))
     have Bset:=hid (bsc (bsc Q5 0 (.slice a0 B.length c0)) 1 (.slice a1 C.length c1))
     have F0:=qh (∀k,(Value.slice a0 B.length c0).rb=some k→w.heap.size<k) (fun k hk=>(hf1'.out k hk).1)
     have F1:=qh (∀k,(Value.slice a1 C.length c1).rb=some k→w.heap.size<k) (fun k hk=>by have:=hf2'.out k hk;have:=hnb.out;omega)
     clear hp4 y0 y1 hc Y5 Q5
     go_wp2
     exact bodyPost_ret (v:=.agg #[.slice a0 B.length c0,.slice a1 C.length c1]) (by simp [results,Tryz.results138,go_sem,cob Bset.out 0,cob Bset.out 1]) rfl ⟨_,_,rfl,by rw [HR.out];exact ⟨Dots.kept D5.out.1 Kset.out (fun k hk e=>by have:=F0.out k hk;omega),Dots.kept D5.out.2 Kset.out (fun k hk e=>by have:=F1.out k hk;omega)⟩,fun k hk=>Nat.le_of_lt (F0.out k hk),fun k hk=>Nat.le_of_lt (F1.out k hk),by rw [HR.out];exact Hset.out.r,Hset.out.k⟩
end
section
set_option maxHeartbeats 4000000
set_option maxRecDepth 8000
open Go.RowKit Go.Maps Go.Shelf Go.Sort
theorem alone_any (m:Msg) (c1 c2:Value) (X:List Dot × List Dot) (n o:Nat) (w6:World) (y0 y1 y2:Value) (Y:List Msg) (W:World) (hc:CR c1 c2 X W) (sx:Sml n X) (hn:n≤3000) (hB:BL o w6 y0 y1 y2 Y W) (ho:o<w6.heap.size) (hY:Y.length≤10000) :
 Calls Tryz.prog 143 #[mv m,.agg #[c1,c2],.pointer (some ⟨o,0,none⟩)] W fun e w'=>e=.returned (.tuple #[])∧∃y0',BL o w6 y0' y1 y2 (Y++alo (chas X.1 X.2) m) w':=by
 obtain ⟨⟨x,y⟩,q,b,c⟩:=m
 obtain ⟨wz,hwz⟩:=qe ((W.alloc (.cells #[.int .i64 x,.int .i64 y,.string (bs q),.string (bs b),.int .i64 c] 43)).alloc (.cells #[c1,c2] 32))
 have hpz:Pure W wz:=by rw [hwz];exact qp.alloc qb _
 have hmz:MX W.heap.size ((x,y),q,b,c) wz:=by rw [hwz];exact (MX.made W ((x,y),q,b,c)).pure qp
 have hcz:wz.heap[W.heap.size+1]?=some (.cells #[c1,c2] 32 (0,0)):=by
  have:=ban (W.alloc (.cells #[.int .i64 x,.int .i64 y,.string (bs q),.string (bs b),.int .i64 c] 43)) (.cells #[c1,c2] 32)
  rw [World.size_alloc] at this
  rw [hwz];exact this
 have Hh:=hid (hasB (x,y) (hc.pure hpz) sx hn)
 have Hm:=hid hmz
 have HB:=hid (fun W' (hW:Pure wz W')=>hB.pure (hpz.then_ hW))
 obtain ⟨a9,c9,rfl⟩:=osd hB.r0
 have hks:=hB.k.size
 have hps:=hpz.size
 unfold alo mv
 dsimp only at Hh ⊢
 generalize chas X.1 X.2 (x,y)=ct at *
 obtain ⟨m0',m1',m2',m3',m4'⟩:=hmz.cells
 have k0:=cob hcz 0
 have k1:=cob hcz 1
 simp only [List.getElem?_toArray,List.getElem?_cons_succ,List.getElem?_cons_zero] at k0 k1
 rw [hwz] at m0' m1' m2' m3' m4' k0 k1
 clear hB hc hpz hmz hcz sx
 go_enter Tryz.func143,Tryz.ntmps143
 go_wp2_with fail
 rw [←hwz]
 clear hwz m0' m1' m2' m3' m4' k0 k1
 refine Hh.out.mono ?_
 rintro e w2 ⟨rfl,hp2⟩
 obtain ⟨m0',m1',m2',m3',m4'⟩:=(Hm.out.pure hp2).cells
 have HB2:=hid (HB.out w2 hp2)
 obtain ⟨o0,o1,o2,o3⟩:=HB2.out.cells
 have hs2:=hp2.size
 clear Hh hp2
 cases ct with
 | true =>
   go_wp2
   go_end0
   exact ⟨rfl,_,by simpa using HB2.out⟩
 | false =>
   have b4:w6.heap.size≤(w2.alloc (.cells #[.int .i64 x,.int .i64 y,.string (bs q),.string (bs b),.int .i64 c] 43)).heap.size:=by simp;omega
   have hgr:=hid (fun (v' : Value) (w' : World) (h1:w'.ownsRow w6.heap.size 43 5 v' (Y.length+1) (mvs (Y++[((x,y),q,b,c)]))) (h2:(w2.alloc (.cells #[.int .i64 x,.int .i64 y,.string (bs q),.string (bs b),.int .i64 c] 43)).grownBy w' (Value.slice a9 Y.length c9).ownBlock) =>
    (HB2.out.pure (show Pure w2 (w2.alloc (.cells #[.int .i64 x,.int .i64 y,.string (bs q),.string (bs b),.int .i64 c] 43)) from qp)).grow h2 (L':=Y++[((x,y),q,b,c)]) (by rw [List.length_append];exact h1) ho)
   have hol:o<w2.heap.size:=by omega
   go_wp2_with (at_builtin;refine wpList_append_msgs rfl _ _ rfl w6.heap.size _ Y Y.length rfl (HB2.out.r0.alloc _) _ [((x,y),q,b,c)] 1 rfl (msgs_lit w2 ((x,y),q,b,c)) oe b4 ?_)
   intro v4 w4 hown4 hg4
   obtain ⟨hb',hL'⟩:=hgr.out v4 w4 hown4 hg4
   have s1:=cob hb' 0
   have s2:=fob hb' 0
   obtain ⟨a8,c8,rfl⟩:=osd hown4
   simp only [List.getElem?_toArray,List.getElem?_cons_zero] at s1
   have HL:=hid hL'
   clear hown4 hg4 hb' hL'
   go_wp2
   go_end0
   exact ⟨rfl,_,by simpa using HL.out⟩
end
section
set_option maxHeartbeats 4000000
set_option maxRecDepth 8000
open Go.RowKit Go.Maps Go.Shelf
theorem rtchk_any (v:Value) (l:List Tag) (w:World) (hr:Tags w v l) (hl:l.length≤100000) :
 Calls Tryz.prog 116 #[v] w fun e w'=>e=.returned (.int .i64 (er1 (tchk l)))∧Pure w w':=by
 obtain ⟨a,cap,rfl⟩:=hr.shape
 obtain ⟨C,hC⟩:=qe (tchk l)
 rw [←hC]
 by_cases h100:l.length≤100
 ·have HB:=qh (∀k,k<l.length→tat l k=false→C=false) (fun k h e=>by rw [hC];unfold tchk;rw [allB_false h e,Bool.and_false])
  have HE:=qh (allB l.length (tat l)=true→C=true) (fun h=>by rw [hC];unfold tchk;rw [h,decide_eq_true h100];rfl)
  have Hr:=hid hr
  have hmay:=hid (fun s W=>(rnmay_any s W).mono (R':=fun e w'=>e=.returned (.bool (nmay s))∧W=w') (fun e w' h=>⟨h.1,h.2.symm⟩))
  have h100' : ¬(l.length:Int) > 100:=by omega
  clear hr hC
  go_enter Tryz.func116,Tryz.ntmps116
  go_wp2_with fail
  go_loopw [3] (fun i wr=>∃k:Nat,k≤l.length∧i=.int .i64 k∧allB k (tat l)=true∧Pure w wr) (fun i _=>l.length-(RowKit.intOf i).toNat)
  case atStart=>exact ⟨0,Nat.zero_le _,rfl,rfl,Below.refl _ _⟩
  case round =>
   obtain ⟨k,hk,rfl,hal,hp⟩:=hrel
   have Hal:=hid hal
   have Hp:=hid hp
   clear hal
   by_cases hlt:k<l.length
   ·have hlt' : (k:Int)<(l.length:Int):=by omega
    have hk0:(0:Int)≤(k:Int):=by omega
    have Hrow:=qh (Tags wr (.slice a l.length cap) l) (Row.pure Hr.out hp)
    obtain ⟨b,off,rfl,hb,x0,x1⟩:=Tags.get Hrow.out hlt
    have Hno:=hid (fun (e:tat l k=false)=>HB.out k hlt e)
    have Hyes:=hid (fun (e:tat l k=true)=>allB_next Hal.out e)
    have Htat:=hid (tat_of l k)
    have hprev:=hid (fun (h0:0<k)=>(show wr.cell? ⟨b,off+(k-1)*2,none⟩=some (.string (bs (l.getD (k-1) t0).1)) from by
     obtain ⟨b',off',e',_,y0,_⟩:=Tags.get Hrow.out (show k-1<l.length by omega)
     cases e';exact y0))
    have hmy:=hid (hmay.out (l.getD k t0).1)
    have hge:=qh (Op.bytesLess (bs (l.getD (k-1) t0).1).toList (bs (l.getD k t0).1).toList=tlt (l.getD (k-1) t0).1 (l.getD k t0).1) (by rw [bs_listt,bs_listt];rfl)
    generalize l.getD (k-1) t0=y at *
    generalize l.getD k t0=z at *
    obtain ⟨zs,zn⟩:=z
    obtain ⟨ys,yn⟩:=y
    dsimp only at x0 x1 Htat hmy hprev hge
    clear hp
    generalize nmay zs=D1 at *
    generalize tlt ys zs=D4 at *
    cases D1 with
    | false =>
      have HF:=hid (Hno.out (by rw [Htat.out];rfl))
      clear Hyes Hno Htat hprev hge
      have hS:Hid (∀W,Pure wr W→(W.cell? ⟨b,off+k*2,none⟩=some (.string (bs zs))∧W.cell? ⟨b,off+k*2+1,none⟩=some (.int .i64 zn)∧Pure wr W)):=fun W hW=>by
       exact ⟨(hW.cell hb).trans x0,(hW.cell hb).trans x1,hW⟩
      have hst:=hid (hS.out wr.drew qv)
      have hS2:Hid (∀W:World,(W.cell? ⟨b,off+k*2,none⟩=some (.string (bs zs))∧W.cell? ⟨b,off+k*2+1,none⟩=some (.int .i64 zn)∧Pure wr W)→Pure wr W):=fun W h=>h.2.2
      go_wp2_with (go_at_call 164;refine (hmy.out _).mono ?_;rintro e w1 ⟨rfl,rfl⟩)
      refine wp_region_held_drew (S:=(fun W=>W.cell? ⟨b,off+k*2,none⟩=some (.string (bs zs))∧W.cell? ⟨b,off+k*2+1,none⟩=some (.int .i64 zn)∧Pure wr W)) qk ?_ (fun hHeld=>?_)
      ·exact qz
      refine tkA 0 ?_
      refine tkA 1 ?_
      refine tkA 2 ?_
      refine tkU 3 ?_
      refine tkU 4 ?_
      refine tkU 5 ?_
      refine tkU 6 ?_
      refine tkU 7 ?_
      refine tkU 8 ?_
      refine tkA 9 ?_
      refine tkA 10 ?_
      refine tkU 11 ?_
      refine tkU 12 ?_
      refine tkU 13 ?_
      refine tkU 14 ?_
      refine tkU 15 ?_
      refine tkU 16 ?_
      refine tkA 17 ?_
      refine tkA 18 ?_
      refine tkU 19 ?_
      refine tkU 20 ?_
      refine tkU 21 ?_
      refine tkU 22 ?_
      refine tkU 23 ?_
      refine tkU 24 ?_
      refine tkU 25 ?_
      refine tkU 26 ?_
      refine tkU 27 ?_
      refine tkU 28 ?_
      refine tkU 29 ?_
      refine tkU 30 ?_
      refine tkU 31 ?_
      refine tkU 32 ?_
      refine tkU 33 ?_
      refine tkU 34 ?_
      refine tkA 35 ?_
      refine wpAnyH_done qk ?_ _
      have hx:=hid (hS2.out _ qa)
      go_wp2
      go_ret
      exact ⟨by rw [HF.out];rfl,Hp.out.then_ hx.out⟩
    | true =>
      by_cases c2:1≤zn
      ·have c2' : decide (zn<1)=false:=decide_eq_false oe
       by_cases c3:zn≤1048576
       ·have c3' : decide (zn > 1048576)=false:=decide_eq_false oe
        have c3'' : decide (1048576<zn)=false:=decide_eq_false oe
        by_cases c4:k=0
        ·subst c4
         have HT:=hid (Hyes.out (by rw [Htat.out,decide_eq_true c2,decide_eq_true c3];rfl))
         clear Hyes Hno Htat hprev hge
         simp only [Nat.zero_mul,Nat.add_zero] at x0 x1
         have hS:Hid (∀W,Pure wr W→(W.cell? ⟨b,off,none⟩=some (.string (bs zs))∧W.cell? ⟨b,off+1,none⟩=some (.int .i64 zn)∧Pure wr W)):=fun W hW=>by
          exact ⟨(hW.cell hb).trans x0,(hW.cell hb).trans x1,hW⟩
         have hst:=hid (hS.out wr.drew qv)
         have hS2:Hid (∀W:World,(W.cell? ⟨b,off,none⟩=some (.string (bs zs))∧W.cell? ⟨b,off+1,none⟩=some (.int .i64 zn)∧Pure wr W)→Pure wr W):=fun W h=>h.2.2
         go_wp2_with (go_at_call 164;refine (hmy.out _).mono ?_;rintro e w1 ⟨rfl,rfl⟩)
         refine wp_region_held_drew (S:=(fun W=>W.cell? ⟨b,off,none⟩=some (.string (bs zs))∧W.cell? ⟨b,off+1,none⟩=some (.int .i64 zn)∧Pure wr W)) qk ?_ (fun hHeld=>?_)
         ·exact qz
         refine tkA 0 ?_
         refine tkA 1 ?_
         refine tkA 2 ?_
         refine tkA 3 ?_
         refine tkA 4 ?_
         refine tkA 5 ?_
         refine tkA 6 ?_
         refine tkA 7 ?_
         refine tkA 8 ?_
         refine tkA 9 ?_
         refine tkA 10 ?_
         refine tkA 11 ?_
         refine tkA 12 ?_
         refine tkA 13 ?_
         refine tkA 14 ?_
         refine tkA 15 ?_
         refine tkA 16 ?_
         refine tkA 17 ?_
         refine tkA 18 ?_
         refine tkA 19 ?_
         refine tkA 20 ?_
         refine tkA 21 ?_
         refine tkU 22 ?_
         refine tkU 23 ?_
         refine tkU 24 ?_
         refine tkU 25 ?_
         refine tkU 26 ?_
         refine tkU 27 ?_
         refine tkU 28 ?_
         refine tkU 29 ?_
         refine tkU 30 ?_
         refine tkU 31 ?_
         refine tkU 32 ?_
         refine tkU 33 ?_
         refine tkA 34 ?_
         refine tkA 35 ?_
         refine wpAnyH_done qk ?_ _
         have hx:=hid (hS2.out _ qa)
         go_wp2
         go_roundw
         case rel=>exact ⟨0+1,by omega,by go_num,HT.out,Hp.out.then_ hx.out⟩
         case measure=>simp [RowKit.intOf];omega
        ·have h0' : decide ((k:Int) > 0)=true:=decide_eq_true oe
         have h0'' : decide (0<k)=true:=decide_eq_true oe
         have hsub:IntKind.i64.wrap ((k:Int)-1)=((k-1:Nat):Int):=by rw [IntWalk.i64_in _ oe];omega
         have hsub2:(k:Int)-1=((k-1:Nat):Int):=by omega
         have hlt2:((k-1:Nat):Int)<(l.length:Int):=by omega
         have y0:=hprev.out oe
         have hn:(0:Int)≤((k-1:Nat):Int):=by omega
         have HT':=hid (fun (e:D4=true)=>Hyes.out (by rw [Htat.out,decide_eq_true c2,decide_eq_true c3,e,Bool.or_true];rfl))
         have HF':=hid (fun (e:D4=false)=>Hno.out (by rw [Htat.out,e,decide_eq_false c4,Bool.or_false,Bool.and_false,Bool.and_false,Bool.and_false]))
         have hge1:=hge.out
         have hwm:IntKind.i64.wrap ((k-1:Nat):Int)=((k-1:Nat):Int):=IntWalk.i64_in _ oe
         clear Hyes Hno Htat hprev hge
         cases D4 with
         | true =>
           have HT:=hid (HT'.out rfl)
           clear HT' HF'
           have hS:Hid (∀W,Pure wr W→(W.cell? ⟨b,off+k*2,none⟩=some (.string (bs zs))∧W.cell? ⟨b,off+k*2+1,none⟩=some (.int .i64 zn)∧W.cell? ⟨b,off+(k-1)*2,none⟩=some (.string (bs ys))∧Pure wr W)):=fun W hW=>by
            exact ⟨(hW.cell hb).trans x0,(hW.cell hb).trans x1,(hW.cell hb).trans y0,hW⟩
           have hst:=hid (hS.out wr.drew qv)
           have hS2:Hid (∀W:World,(W.cell? ⟨b,off+k*2,none⟩=some (.string (bs zs))∧W.cell? ⟨b,off+k*2+1,none⟩=some (.int .i64 zn)∧W.cell? ⟨b,off+(k-1)*2,none⟩=some (.string (bs ys))∧Pure wr W)→Pure wr W):=fun W h=>h.2.2.2
           generalize hj:k-1=j at *
           go_wp2_with (go_at_call 164;refine (hmy.out _).mono ?_;rintro e w1 ⟨rfl,rfl⟩)
           refine wp_region_held_drew (S:=(fun W=>W.cell? ⟨b,off+k*2,none⟩=some (.string (bs zs))∧W.cell? ⟨b,off+k*2+1,none⟩=some (.int .i64 zn)∧W.cell? ⟨b,off+j*2,none⟩=some (.string (bs ys))∧Pure wr W)) qk ?_ (fun hHeld=>?_)
           ·exact qz
           refine tkA 0 ?_
           refine tkA 1 ?_
           refine tkA 2 ?_
           refine tkA 3 ?_
           refine tkA 4 ?_
           refine tkA 5 ?_
           refine tkA 6 ?_
           refine tkA 7 ?_
           refine tkA 8 ?_
           refine tkA 9 ?_
           refine tkA 10 ?_
           refine tkA 11 ?_
           refine tkA 12 ?_
           refine tkA 13 ?_
           refine tkA 14 ?_
           refine tkA 15 ?_
           refine tkA 16 ?_
           refine tkA 17 ?_
           refine tkA 18 ?_
           refine tkA 19 ?_
           refine tkA 20 ?_
           refine tkA 21 ?_
           refine tkA 22 ?_
           refine tkA 23 ?_
           refine tkA 24 ?_
           refine tkA 25 ?_
           refine tkA 26 ?_
           refine tkA 27 ?_
           refine tkA 28 ?_
           refine tkA 29 ?_
           refine tkA 30 ?_
           refine tkA 31 ?_
           refine tkA 32 ?_
           refine tkA 33 ?_
           refine tkA 34 ?_
           refine tkA 35 ?_
           refine wpAnyH_done qk ?_ _
           have hx:=hid (hS2.out _ qa)
           go_wp2
           go_roundw
           case rel=>exact ⟨k+1,by omega,by go_num,HT.out,Hp.out.then_ hx.out⟩
           case measure=>simp [RowKit.intOf];omega
         | false =>
           have HF:=hid (HF'.out rfl)
           clear HT' HF'
           have hS:Hid (∀W,Pure wr W→(W.cell? ⟨b,off+k*2,none⟩=some (.string (bs zs))∧W.cell? ⟨b,off+k*2+1,none⟩=some (.int .i64 zn)∧W.cell? ⟨b,off+(k-1)*2,none⟩=some (.string (bs ys))∧Pure wr W)):=fun W hW=>by
            exact ⟨(hW.cell hb).trans x0,(hW.cell hb).trans x1,(hW.cell hb).trans y0,hW⟩
           have hst:=hid (hS.out wr.drew qv)
           have hS2:Hid (∀W:World,(W.cell? ⟨b,off+k*2,none⟩=some (.string (bs zs))∧W.cell? ⟨b,off+k*2+1,none⟩=some (.int .i64 zn)∧W.cell? ⟨b,off+(k-1)*2,none⟩=some (.string (bs ys))∧Pure wr W)→Pure wr W):=fun W h=>h.2.2.2
           generalize hj:k-1=j at *
           go_wp2_with (go_at_call 164;refine (hmy.out _).mono ?_;rintro e w1 ⟨rfl,rfl⟩)
           refine wp_region_held_drew (S:=(fun W=>W.cell? ⟨b,off+k*2,none⟩=some (.string (bs zs))∧W.cell? ⟨b,off+k*2+1,none⟩=some (.int .i64 zn)∧W.cell? ⟨b,off+j*2,none⟩=some (.string (bs ys))∧Pure wr W)) qk ?_ (fun hHeld=>?_)
           ·exact qz
           refine tkA 0 ?_
           refine tkA 1 ?_
           refine tkA 2 ?_
           refine tkA 3 ?_
           refine tkA 4 ?_
           refine tkA 5 ?_
           refine tkA 6 ?_
           refine tkA 7 ?_
           refine tkA 8 ?_
           refine tkA 9 ?_
           refine tkA 10 ?_
           refine tkA 11 ?_
           refine tkA 12 ?_
           refine tkA 13 ?_
           refine tkA 14 ?_
           refine tkA 15 ?_
           refine tkA 16 ?_
           refine tkA 17 ?_
           refine tkA 18 ?_
           refine tkA 19 ?_
           refine tkA 20 ?_
           refine tkA 21 ?_
           refine tkA 22 ?_
           refine tkA 23 ?_
           refine tkA 24 ?_
           refine tkA 25 ?_
           refine tkA 26 ?_
           refine tkA 27 ?_
           refine tkA 28 ?_
           refine tkA 29 ?_
           refine tkA 30 ?_
           refine tkA 31 ?_
           refine tkA 32 ?_
           refine tkA 33 ?_
           refine tkA 34 ?_
           refine tkA 35 ?_
           refine wpAnyH_done qk ?_ _
           have hx:=hid (hS2.out _ qa)
           go_wp2
           go_ret
           exact ⟨by rw [HF.out];rfl,Hp.out.then_ hx.out⟩
       ·have c3' : decide (zn > 1048576)=true:=decide_eq_true oe
        have c3'' : decide (1048576<zn)=true:=decide_eq_true oe
        have HF:=hid (Hno.out (by rw [Htat.out,decide_eq_false c3];simp))
        clear Hyes Hno Htat hprev hge
        have hS:Hid (∀W,Pure wr W→(W.cell? ⟨b,off+k*2,none⟩=some (.string (bs zs))∧W.cell? ⟨b,off+k*2+1,none⟩=some (.int .i64 zn)∧Pure wr W)):=fun W hW=>by
         exact ⟨(hW.cell hb).trans x0,(hW.cell hb).trans x1,hW⟩
        have hst:=hid (hS.out wr.drew qv)
        have hS2:Hid (∀W:World,(W.cell? ⟨b,off+k*2,none⟩=some (.string (bs zs))∧W.cell? ⟨b,off+k*2+1,none⟩=some (.int .i64 zn)∧Pure wr W)→Pure wr W):=fun W h=>h.2.2
        go_wp2_with (go_at_call 164;refine (hmy.out _).mono ?_;rintro e w1 ⟨rfl,rfl⟩)
        refine wp_region_held_drew (S:=(fun W=>W.cell? ⟨b,off+k*2,none⟩=some (.string (bs zs))∧W.cell? ⟨b,off+k*2+1,none⟩=some (.int .i64 zn)∧Pure wr W)) qk ?_ (fun hHeld=>?_)
        ·exact qz
        refine tkA 0 ?_
        refine tkA 1 ?_
        refine tkA 2 ?_
        refine tkA 3 ?_
        refine tkA 4 ?_
        refine tkA 5 ?_
        refine tkA 6 ?_
        refine tkA 7 ?_
        refine tkA 8 ?_
        refine tkA 9 ?_
        refine tkA 10 ?_
        refine tkA 11 ?_
        refine tkA 12 ?_
        refine tkA 13 ?_
        refine tkA 14 ?_
        refine tkA 15 ?_
        refine tkA 16 ?_
        refine tkA 17 ?_
        refine tkA 18 ?_
        refine tkU 19 ?_
        refine tkU 20 ?_
        refine tkU 21 ?_
        refine tkU 22 ?_
        refine tkU 23 ?_
        refine tkU 24 ?_
        refine tkU 25 ?_
        refine tkU 26 ?_
        refine tkU 27 ?_
        refine tkU 28 ?_
        refine tkU 29 ?_
        refine tkU 30 ?_
        refine tkU 31 ?_
        refine tkU 32 ?_
        refine tkU 33 ?_
        refine tkU 34 ?_
        refine tkA 35 ?_
        refine wpAnyH_done qk ?_ _
        have hx:=hid (hS2.out _ qa)
        go_wp2
        go_ret
        exact ⟨by rw [HF.out];rfl,Hp.out.then_ hx.out⟩
      ·have c2' : decide (zn<1)=true:=decide_eq_true oe
       have HF:=hid (Hno.out (by rw [Htat.out,decide_eq_false c2];simp))
       clear Hyes Hno Htat hprev hge
       have hS:Hid (∀W,Pure wr W→(W.cell? ⟨b,off+k*2,none⟩=some (.string (bs zs))∧W.cell? ⟨b,off+k*2+1,none⟩=some (.int .i64 zn)∧Pure wr W)):=fun W hW=>by
        exact ⟨(hW.cell hb).trans x0,(hW.cell hb).trans x1,hW⟩
       have hst:=hid (hS.out wr.drew qv)
       have hS2:Hid (∀W:World,(W.cell? ⟨b,off+k*2,none⟩=some (.string (bs zs))∧W.cell? ⟨b,off+k*2+1,none⟩=some (.int .i64 zn)∧Pure wr W)→Pure wr W):=fun W h=>h.2.2
       go_wp2_with (go_at_call 164;refine (hmy.out _).mono ?_;rintro e w1 ⟨rfl,rfl⟩)
       refine wp_region_held_drew (S:=(fun W=>W.cell? ⟨b,off+k*2,none⟩=some (.string (bs zs))∧W.cell? ⟨b,off+k*2+1,none⟩=some (.int .i64 zn)∧Pure wr W)) qk ?_ (fun hHeld=>?_)
       ·exact qz
       refine tkA 0 ?_
       refine tkA 1 ?_
       refine tkA 2 ?_
       refine tkA 3 ?_
       refine tkA 4 ?_
       refine tkA 5 ?_
       refine tkA 6 ?_
       refine tkA 7 ?_
       refine tkA 8 ?_
       refine tkA 9 ?_
       refine tkA 10 ?_
       refine tkU 11 ?_
       refine tkU 12 ?_
       refine tkU 13 ?_
       refine tkU 14 ?_
       refine tkU 15 ?_
       refine tkU 16 ?_
       refine tkA 17 ?_
       refine tkA 18 ?_
       refine tkU 19 ?_
       refine tkU 20 ?_
       refine tkU 21 ?_
       refine tkU 22 ?_
       refine tkU 23 ?_
       refine tkU 24 ?_
       refine tkU 25 ?_
       refine tkU 26 ?_
       refine tkU 27 ?_
       refine tkU 28 ?_
       refine tkU 29 ?_
       refine tkU 30 ?_
       refine tkU 31 ?_
       refine tkU 32 ?_
       refine tkU 33 ?_
       refine tkU 34 ?_
       refine tkA 35 ?_
       refine wpAnyH_done qk ?_ _
       have hx:=hid (hS2.out _ qa)
       go_wp2
       go_ret
       exact ⟨by rw [HF.out];rfl,Hp.out.then_ hx.out⟩
   ·have hlt' : ¬(k:Int)<(l.length:Int):=by omega
    obtain rfl:k=l.length:=by omega
    have HT:=hid (HE.out Hal.out)
    go_wp2
    go_ret
    exact ⟨by rw [HT.out];rfl,Hp.out⟩
 ·have hC2:C=false:=by rw [hC];unfold tchk;rw [decide_eq_false h100];rfl
  subst hC2
  have h100' : (l.length:Int) > 100:=by omega
  go_enter Tryz.func116,Tryz.ntmps116
  go_wp2
  go_ret
  exact ⟨rfl,Below.refl _ _⟩
end
section
set_option maxHeartbeats 4000000
set_option maxRecDepth 8000
open Go.RowKit Go.Maps Go.MapKept
theorem zeroCells_size3p (n:Nat):(Builtin.zeroCells (Value.agg #[.int .i64 0,.int .i64 0,.int .i64 0]).cells n).size=n*3:=by simp [Builtin.zeroCells,Value.cells];try omega
theorem growp_any (n:Nat) (w:World) (hn:n≤1000000) :
 Calls Tryz.prog 193 #[.slice none 0 0,.int .i64 n] w fun e w'=>∃v,e=.returned v∧w'.ownsRow w.heap.size 92 3 v 0 []∧Pure w w':=by
 obtain ⟨i0,hi,hz0,hz1,hz2⟩:=ipt infoPeer
 rcases Nat.eq_zero_or_pos n with rfl|h
 ·refine (Any8.slices_Grow_room Tryz.growP none 0 0 0 w oe oe oe oe).mono ?_
  rintro e w' ⟨rfl,rfl⟩
  exact ⟨_,rfl,World.ownsRow_nil _ _ _ _,Below.refl _ _⟩
 ·refine (Any8.slices_Grow_grow Tryz.growP i0 (.agg #[.int .i64 0,.int .i64 0,.int .i64 0]) hi hz0 (by rw [hz1];decide) none 0 0 n [] w oe oe (by rw [hz2];omega) oe qb (fun _=>rfl) (fun a h=>by cases h)).mono ?_
  rintro e w' ⟨rfl,rfl⟩
  refine ⟨_,rfl,?_,qv.alloc (Nat.le_refl _) _⟩
  have hle:=grownCap_ge w (0+n) 0 (Tryz.growP_ren.t 25)
  refine World.ownsRow_made w.drew _ _ (Nat.le_refl _) (grownCap_le_maxLen w _ _ _ (by unfold maxLen;omega)) ?_
  rw [Array.size_append,Array.size_append,zeroCells_size3p,zeroCells_size3p]
  show 0+(0+n-0)*3+(grownCap w (0+n) 0 (Tryz.growP_ren.t 25)-(0+n))*3=grownCap w (0+n) 0 (Tryz.growP_ren.t 25)*3
  omega
def catp (l1 l2:List Pr) (k:Nat):List Pr:=if k=0 then [] else if k=1 then l1 else l1++l2
theorem concatp_any (bb cp:Nat) (v1 v2:Value) (l1 l2:List Pr) (w:World) (c1:w.cell? ⟨bb,0,none⟩=some v1) (c2:w.cell? ⟨bb,1,none⟩=some v2) (h1:Peers w v1 l1) (h2:Peers w v2 l2) (hl1:l1.length≤100000) (hl2:l2.length≤100000) (hbb:bb<w.heap.size) :
 Calls Tryz.prog 152 #[.slice (some ⟨bb,0,none⟩) 2 cp] w fun e w'=>∃v',e=.returned v'∧w'.ownsRow w.heap.size 92 3 v' (l1++l2).length (pvs (l1++l2))∧Pure w w':=by
 obtain ⟨i0,hi,hz0,hz1,hz2⟩:=ipt infoPeer
 obtain ⟨a1,q1,rfl⟩:=Peers.shape h1
 obtain ⟨a2,q2,rfl⟩:=Peers.shape h2
 have H1:=hid h1
 have H2:=hid h2
 have hC:=hid (fun W (hW:Pure w W)=>(show W.cell? ⟨bb,0,none⟩=some (.slice a1 l1.length q1)∧W.cell? ⟨bb,1,none⟩=some (.slice a2 l2.length q2) from ⟨(hW.cell (p:=⟨bb,0,none⟩) hbb).trans c1,(hW.cell (p:=⟨bb,1,none⟩) hbb).trans c2⟩))
 have Hg:=hid (growp_any (l1.length+l2.length) w oe)
 clear h1 h2 hbb
 go_enter Tryz.func152,Tryz.ntmps152
 go_wp2
 go_loop [3,5,11] (fun s _ i=>(i=.int .i64 0∧s=.int .i64 0)∨(i=.int .i64 1∧s=.int .i64 (l1.length:Int))∨(i=.int .i64 2∧s=.int .i64 ((l1.length+l2.length:Nat):Int))) (fun _ _ i=>2-(RowKit.intOf i).toNat)
 case atStart=>exact .inl ⟨rfl,rfl⟩
 case round =>
  rcases hrel with ⟨rfl,rfl⟩|⟨rfl,rfl⟩|⟨rfl,rfl⟩
  ·have hs:¬(l1.length:Int)<0:=by omega
   go_wp2
   go_round
   case rel=>exact .inr (.inl ⟨rfl,rfl⟩)
   case measure=>simp [RowKit.intOf]
  ·have hs:¬((l1.length:Int)+(l2.length:Int))<0:=by omega
   go_wp2
   go_round
   case rel=>exact .inr (.inr ⟨rfl,by simp⟩)
   case measure=>simp [RowKit.intOf]
  ·go_wp2_with fail
   refine Hg.out.mono ?_
   rintro e w1 ⟨v1,rfl,hown,hp⟩
   have Hown:=hid hown
   have Hp:=hid hp
   obtain ⟨a3,q3,rfl⟩:=own_shape_p hown
   clear hown hp c1 c2
   go_wp2
   go_loopw [6,8,27] (fun o _ i wr=>∃(k:Nat),k≤2∧i=.int .i64 k∧wr.ownsRow w.heap.size 92 3 o (catp l1 l2 k).length (pvs (catp l1 l2 k))∧Pure w wr) (fun _ _ i _=>2-(RowKit.intOf i).toNat)
   case atStart=>exact ⟨0,by omega,rfl,Hown.out,Hp.out⟩
   case round =>
    obtain ⟨k,hk,rfl,hown,hp⟩:=hrel
    obtain ⟨c1,c2⟩:=hC.out wr hp
    have Hp:=hid hp
    by_cases h0:k=0
    ·subst h0
     have Hown:=hid hown
     obtain ⟨a4,q4,rfl⟩:=own_shape_p hown
     clear hown hp
     go_wp2_with (at_builtin;refine wlar rfl _ _ 50 rfl w.heap.size 92 i0 (.agg #[.int .i64 0,.int .i64 0,.int .i64 0]) 3 24 Tryz.underlying50 hi hz0 hz1 hz2 rfl qd qd (.slice a4 0 q4) 0 [] rfl Hown.out _ l1.length (pvs l1) rfl (Row.pure H1.out Hp.out) (fun u hu=>pvs_one _ u hu) oe Hp.out.size ?_)
     intro v3 w3 hown3 hg3
     have Hown3:=hid hown3
     have Hp3:=hid (Hp.out.grown hg3 Hp.out.size (fun k hk=>(Hown.out.lt k hk).1))
     obtain ⟨a5,q5,rfl⟩:=own_shape_p hown3
     clear hown3 hg3
     go_wp2
     go_roundw
     case rel=>exact ⟨1,by omega,rfl,by simpa [catp,pvs_append] using Hown3.out,Hp3.out⟩
     case measure=>simp [RowKit.intOf]
    ·by_cases h1:k=1
     ·subst h1
      have Hown:=qh (wr.ownsRow w.heap.size 92 3 u6 l1.length (pvs l1)) (hown)
      obtain ⟨a4,q4,rfl⟩:=own_shape_p hown
      clear hown hp
      go_wp2_with (at_builtin;refine wlar rfl _ _ 50 rfl w.heap.size 92 i0 (.agg #[.int .i64 0,.int .i64 0,.int .i64 0]) 3 24 Tryz.underlying50 hi hz0 hz1 hz2 rfl qd qd (.slice a4 l1.length q4) l1.length (pvs l1) rfl Hown.out _ l2.length (pvs l2) rfl (Row.pure H2.out Hp.out) (fun u hu=>pvs_one _ u hu) oe Hp.out.size ?_)
      intro v3 w3 hown3 hg3
      have Hown3:=hid hown3
      have Hp3:=hid (Hp.out.grown hg3 Hp.out.size (fun k hk=>(Hown.out.lt k hk).1))
      obtain ⟨a5,q5,rfl⟩:=own_shape_p hown3
      clear hown3 hg3
      go_wp2
      go_roundw
      case rel=>exact ⟨2,by omega,rfl,by simpa [catp,pvs_append] using Hown3.out,Hp3.out⟩
      case measure=>simp [RowKit.intOf]
     ·obtain rfl:k=2:=by omega
      have Hown:=qh (wr.ownsRow w.heap.size 92 3 u6 (l1++l2).length (pvs (l1++l2))) (hown)
      obtain ⟨a4,q4,rfl⟩:=own_shape_p Hown.out
      clear hown hp
      go_wp2
      go_ret
      exact ⟨_,rfl,Hown.out,Hp.out⟩
end
end Go.Proofs.YtdlpnhfgjficgaaGreat
