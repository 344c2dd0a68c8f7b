import Derived.Test.YtdlpnhfgjficgaaGreatMCtx
import Derived.Test.YtdlpnhfgjficgaaGreatMX16
set_option maxHeartbeats 8000000
set_option maxRecDepth 8000
namespace Go.Proofs.YtdlpnhfgjficgaaGreat
open Go.RowKit Go.Maps
def jstep (aB bB cl:List Dot) (s:List Dot × List Dot) (node:Int):List Dot × List Dot :=
 (if 0<(cof node (max (cbase aB node) (cbase bB node)) cl).1 then s.1++[(node,(cof node (max (cbase aB node) (cbase bB node)) cl).1)] else s.1,s.2++(cof node (max (cbase aB node) (cbase bB node)) cl).2)
def cjoin (aB aC bB bC:List Dot):List Dot × List Dot:=(cnodes (aB++bB) (aC++bC)).foldl (jstep aB bB (aC++bC)) ([],[])
structure JB (s:Nat) (va0 va1 vb0 vb1 x0 x1:Value) (wz W:World):Prop where
 a:W.heap[s]?=some (.cells #[va0,va1] 32 (0,0))
 b:W.heap[s+1]?=some (.cells #[vb0,vb1] 32 (0,0))
 both:W.heap[s+3]?=some (.cells #[x0,x1] 32 (0,0))
 k:Kept (fun k=>k=s+3) wz W
 s4:wz.heap.size=s+4
section
variable {s:Nat} {va0 va1 vb0 vb1 x0 x1:Value} {wz W W' : World}
theorem JB.pure (h:JB s va0 va1 vb0 vb1 x0 x1 wz W) (hp:Pure W W'):JB s va0 va1 vb0 vb1 x0 x1 wz W' :=
 ⟨(hp.block _ (lob h.a)).trans h.a,(hp.block _ (lob h.b)).trans h.b,(hp.block _ (lob h.both)).trans h.both,h.k.trans hp.kept,h.s4⟩
theorem JB.grown (h:JB s va0 va1 vb0 vb1 x0 x1 wz W) {row:Option Nat} (hg:W.grownBy W' row) (hr:∀k,row=some k→s+4≤k):JB s va0 va1 vb0 vb1 x0 x1 wz W':=by
 have e:∀i,i≤s+3→some i≠row:=fun i hi e=>by have:=hr i e.symm;omega
 exact ⟨(hg.block _ (lob h.a) (e _ oe)).trans h.a,(hg.block _ (lob h.b) (e _ oe)).trans h.b,(hg.block _ (lob h.both) (e _ oe)).trans h.both,
  h.k.grown hg (fun k hk hlt=>by have:=hr k hk;have:=h.s4;omega),h.s4⟩
theorem JB.set0 (h:JB s va0 va1 vb0 vb1 x0 x1 wz W) (v:Value):JB s va0 va1 vb0 vb1 v x1 wz (W.setCell ⟨s+3,0,none⟩ v) :=
 ⟨bso h.a _ (by show s+3≠s;omega) v,bso h.b _ (by show s+3≠s+1;omega) v,by have:=bsc h.both 0 v;simpa using this,h.k.setCell (fun _=>rfl) v,h.s4⟩
theorem JB.set1 (h:JB s va0 va1 vb0 vb1 x0 x1 wz W) (v:Value):JB s va0 va1 vb0 vb1 x0 v wz (W.setCell ⟨s+3,1,none⟩ v) :=
 ⟨bso h.a _ (by show s+3≠s;omega) v,bso h.b _ (by show s+3≠s+1;omega) v,by have:=bsc h.both 1 v;simpa using this,h.k.setCell (fun _=>rfl) v,h.s4⟩
theorem JB.row (h:JB s va0 va1 vb0 vb1 x0 x1 wz W) {v:Value} {n size:Nat} {xs:List Value} (hr:Row wz v n size xs) (hs:∀k,v.rb=some k→k<s):Row W v n size xs :=
 Row.kept hr h.k (fun k hk e=>by have:=hs k hk;omega)
theorem JB.cells (h:JB s va0 va1 vb0 vb1 x0 x1 wz W):W.cell? ⟨s,0,none⟩=some va0∧W.cell? ⟨s,1,none⟩=some va1∧W.cell? ⟨s+1,0,none⟩=some vb0∧W.cell? ⟨s+1,1,none⟩=some vb1∧W.cell? ⟨s+3,0,none⟩=some x0∧W.cell? ⟨s+3,1,none⟩=some x1∧W.frozen? ⟨s+3,0,none⟩=false∧W.frozen? ⟨s+3,1,none⟩=false :=
 ⟨cob h.a 0,cob h.a 1,cob h.b 0,cob h.b 1,cob h.both 0,cob h.both 1,fob h.both 0,fob h.both 1⟩
end
theorem ints_get_j {w:World} {a:Option Addr} {n cap:Nat} {l:List Int} (h:Ints w (.slice a n cap) l) {k:Nat} (hk:k<l.length):∃b off,a=some ⟨b,off,none⟩∧b<w.heap.size∧w.cell? ⟨b,off+k,none⟩=some (.int .i64 (l.getD k 0)):=by
 obtain ⟨_,_,_,hc⟩:=h.cell
 rcases hc with ⟨h,_⟩|⟨bl,off,h,hb,hc⟩
 ·rw [h] at hk;exact absurd hk (Nat.not_lt_zero _)
 ·exact ⟨bl,off,h,hb,hc k hk⟩
theorem cbase_bd {l:List Dot} {M:Int} (h:∀d ∈ l,0≤d.2∧d.2≤M) (hM:0≤M) (node:Int):0≤cbase l node∧cbase l node≤M:=by
 unfold cbase
 cases hf:l.find? (fun d=>d.1 == node) with
 | none=>exact ⟨Int.le_refl _,hM⟩
 | some d=>exact h d (List.mem_of_find?_eq_some hf)
structure JL (o:Nat) (w6:World) (y0 y1:Value) (L0 L1:List Dot) (W:World):Prop where
 out:W.heap[o]?=some (.cells #[y0,y1] 32 (0,0))
 r0:W.ownsRow w6.heap.size 28 2 y0 L0.length (dvs L0)
 r1:W.ownsRow w6.heap.size 28 2 y1 L1.length (dvs L1)
 ap:∀g,y0.ownBlock=some g→y1.ownBlock≠some g
 k:Kept (fun k=>k=o) w6 W
theorem JL.pure {o:Nat} {w6 W W' : World} {y0 y1:Value} {L0 L1:List Dot} (h:JL o w6 y0 y1 L0 L1 W) (hp:Pure W W'):JL o w6 y0 y1 L0 L1 W' :=
 ⟨(hp.block _ (lob h.out)).trans h.out,own_pure h.r0 hp,own_pure h.r1 hp,h.ap,h.k.trans hp.kept⟩
theorem JL.cells {o:Nat} {w6 W:World} {y0 y1:Value} {L0 L1:List Dot} (h:JL o w6 y0 y1 L0 L1 W):W.cell? ⟨o,0,none⟩=some y0∧W.cell? ⟨o,1,none⟩=some y1∧W.frozen? ⟨o,0,none⟩=false∧W.frozen? ⟨o,1,none⟩=false :=
 ⟨cob h.out 0,cob h.out 1,fob h.out 0,fob h.out 1⟩
theorem own_setCell {w:World} {base n e sz:Nat} {v:Value} {xs:List Value} (h:w.ownsRow base e sz v n xs) (p:Addr) (hp:p.block<base) (u:Value):(w.setCell p u).ownsRow base e sz v n xs:=ownsRow_setCell_below h (a:=p) hp u
theorem own_apart_fresh {w:World} {base' n' e' s' : Nat} {v v' v2:Value} {xs' : List Value} (h2:w.ownsRow base' e' s' v2 n' xs') (ap:∀g,v.ownBlock=some g→v2.ownBlock≠some g) (hf:FreshOr w v v'):∀g,v'.ownBlock=some g→v2.ownBlock≠some g:=by
 intro g hg h
 rcases hf with hf|⟨k,hk,hlt⟩
 ·exact ap g (hf ▸ hg) h
 ·rw [hk] at hg
  have:k=g:=by simpa using hg
  have:=(h2.lt g h).2
  omega
theorem FreshOr.ge {w:World} {base e n s:Nat} {v v' : Value} {xs:List Value} (h:w.ownsRow base e s v n xs) (hf:FreshOr w v v') (hb:base≤w.heap.size):∀g,v'.ownBlock=some g→base≤g:=by
 intro g hg
 rcases hf with hf|⟨k,hk,hlt⟩
 ·exact (h.lt g (hf ▸ hg)).1
 ·rw [hk] at hg
  have:k=g:=by simpa using hg
  omega
theorem JL.grow0 {o:Nat} {w6 W W' : World} {y0 y1 v' : Value} {L0 L1 L0' : List Dot} (h:JL o w6 y0 y1 L0 L1 W) (hg:W.grownBy W' y0.ownBlock) (hv:W'.ownsRow w6.heap.size 28 2 v' L0'.length (dvs L0')) (hf:FreshOr W y0 v') (ho:o<w6.heap.size) :
 W'.heap[o]?=some (.cells #[y0,y1] 32 (0,0))∧JL o w6 v' y1 L0' L1 (W'.setCell ⟨o,0,none⟩ v'):=by
 have hb:W'.heap[o]?=some (.cells #[y0,y1] 32 (0,0)):=(hg.block o (lob h.out) (fun e=>own_ne h.r0 ho e.symm)).trans h.out
 have ap':=own_apart_fresh h.r1 h.ap hf
 refine ⟨hb,?_,own_setCell hv _ ho _,own_setCell (h.r1.kept hg ?_) _ ho _,ap',(h.k.grown hg (fun k hk hlt=>by have:=(h.r0.lt k hk).1;omega)).setCell (fun _=>rfl) _⟩
 ·have:=bsc hb 0 v';simpa using this
 ·cases hy:y1.ownBlock with
  | none=>exact .inl rfl
  | some g=>exact .inr (fun e=>h.ap g e.symm hy)
theorem JL.grow1 {o:Nat} {w6 W W' : World} {y0 y1 v' : Value} {L0 L1 L1' : List Dot} (h:JL o w6 y0 y1 L0 L1 W) (hg:W.grownBy W' y1.ownBlock) (hv:W'.ownsRow w6.heap.size 28 2 v' L1'.length (dvs L1')) (hf:FreshOr W y1 v') (ho:o<w6.heap.size) :
 W'.heap[o]?=some (.cells #[y0,y1] 32 (0,0))∧JL o w6 y0 v' L0 L1' (W'.setCell ⟨o,1,none⟩ v'):=by
 have hb:W'.heap[o]?=some (.cells #[y0,y1] 32 (0,0)):=(hg.block o (lob h.out) (fun e=>own_ne h.r1 ho e.symm)).trans h.out
 have ap':=own_apart_fresh h.r0 (fun g h1 h2=>h.ap g h2 h1) hf
 refine ⟨hb,?_,own_setCell (h.r0.kept hg ?_) _ ho _,own_setCell hv _ ho _,fun g h1 h2=>ap' g h2 h1,(h.k.grown hg (fun k hk hlt=>by have:=(h.r1.lt k hk).1;omega)).setCell (fun _=>rfl) _⟩
 ·have:=bsc hb 1 v';simpa using this
 ·cases hy:y0.ownBlock with
  | none=>exact .inl rfl
  | some g=>exact .inr (fun e=>h.ap g hy e.symm)
theorem apart10 {o:Nat} {w6 W w10:World} {y0 y1 v10:Value} {L0 L1:List Dot} {n:Nat} {xs:List Value} (h:w10.ownsRow W.heap.size 28 2 v10 n xs) (hL:JL o w6 y0 y1 L0 L1 W):∀g,v10.rb=some g→(y0.ownBlock≠some g∧y1.ownBlock≠some g)∧g≠o∧g<w10.heap.size:=by
 intro g hg
 have h1:=h.lt g (rb_own hg)
 exact ⟨⟨fun e=>by have:=(hL.r0.lt g e).2;omega,fun e=>by have:=(hL.r1.lt g e).2;omega⟩,fun e=>by have:=lob hL.out;omega,h1.2⟩
theorem jstep_bd (aB bB cl:List Dot) (hcl:∀node u,(cof node u cl).2.length≤1000) (s:List Dot × List Dot) (x:Int):(jstep aB bB cl s x).1.length≤s.1.length+1∧(jstep aB bB cl s x).2.length≤s.2.length+1000:=by
 unfold jstep
 have:=hcl x (max (cbase aB x) (cbase bB x))
 refine ⟨?_,by simp;omega⟩
 dsimp only
 split
 ·simp
 ·omega
theorem jfold_bd (aB bB cl:List Dot) (hcl:∀node u,(cof node u cl).2.length≤1000) (N:List Int):∀k,k≤N.length→((N.take k).foldl (jstep aB bB cl) ([],[])).1.length≤k∧((N.take k).foldl (jstep aB bB cl) ([],[])).2.length≤k*1000
 | 0,_=>by simp
 | k+1,h=>by
   obtain ⟨h1,h2⟩:=jfold_bd aB bB cl hcl N k oe
   have e:(N.take (k+1)).foldl (jstep aB bB cl) ([],[])=jstep aB bB cl ((N.take k).foldl (jstep aB bB cl) ([],[])) (N.getD k 0):=by rw [take_succ_get N k oe];simp
   rw [e]
   obtain ⟨g1,g2⟩:=jstep_bd aB bB cl hcl ((N.take k).foldl (jstep aB bB cl) ([],[])) (N.getD k 0)
   exact ⟨by omega,by omega⟩
theorem cof_len (node u:Int) (cl:List Dot) (h:cl.length≤1000):(cof node u cl).2.length≤1000:=by
 have h1:=dsort_len cl
 have h2:=(cfold_bd u ((dsort cl).filter fun d=>d.1 == node) _ (Nat.le_refl _)).2.2
 rw [List.take_length] at h2
 have h3:((dsort cl).filter fun d=>d.1 == node).length≤(dsort cl).length:=List.length_filter_le _ _
 unfold cof
 omega
theorem cof_le (node u:Int) (cl:List Dot):(cof node u cl).2.length≤cl.length:=by
 have h1:=dsort_len cl
 have h2:=(cfold_bd u ((dsort cl).filter fun d=>d.1 == node) _ (Nat.le_refl _)).2.2
 rw [List.take_length] at h2
 have h3:((dsort cl).filter fun d=>d.1 == node).length≤(dsort cl).length:=List.length_filter_le _ _
 unfold cof
 omega
theorem cnodes_len (B C:List Dot):(cnodes B C).length≤B.length+C.length:=by
 unfold cnodes
 have:=dsort_len (B.map node0++C.map node0)
 simp at this ⊢;omega
theorem step_append_own2 {P:Program} {ops:Array Oper} {o:Oper} {a:Act} {w:World} {K:Act→World→Prop} {Q:Exit→Act→World→Prop} {E:Prop}
 (hg:o.guard=none) (s x:Operand) (t:TypeId) (hop:o.op=Op.call { callee:=Callee.builtin Builtin.append,args:=#[s,x],argTypes:=#[t,t] })
 (base:Nat) (e:TypeId) (i:TypeInfo) (z:Value) (size bytes:Nat) (h1:P.underlying t=some (.slice e)) (h2:P.info? e=some i) (h3:i.zero=some z) (h4:i.size=size) (h5:i.bytes=bytes) (h6:z.cells.size=size) (h7:0<size)
 (v:Value) (n:Nat) (xs:List Value) (hs:a.eval s=v) (hown:w.ownsRow base e size v n xs)
 (ad:Addr) (m c:Nat) (news:List Value) (hx:a.eval x=.slice (some ad) m c) (hn:news.length=m*size) (hc:∀j u,news[j]?=some u→w.cell? (ad.add j)=some u) (h1c:∀u ∈ news,u.oneCell'=true)
 (b1:n+m≤maxLen) (b2:(n+m)*bytes≤140737488355328) (hbase:base≤w.heap.size)
 (hK:∀v' w',w'.ownsRow base e size v' (n+m) (xs++news)→w.grownBy w' v.ownBlock→FreshOr w v v'→K (a.put o.dst v') w') :
 if Region.wanted o (yielded ops a.tmps)=true then Oper.wp P o a w K Q else E:=by
 have hw:Region.wanted o (yielded ops a.tmps)=true:=by simp [Region.wanted,hg]
 rw [if_pos hw]
 obtain ⟨v',w',hrun,r1,r2,r3⟩:=run_append_own2 (P:=P) w base t o.type e i z size bytes h1 h2 h3 h4 h5 h6 h7 v n xs hown ad m c news hn hc h1c b1 b2 hbase
 unfold Oper.wp
 simp [execOp,hop,resolve,invoke,builtin,hs,hx,hrun,Result.andThen]
 exact hK v' w' r1 r2 r3
theorem kept_set (w:World) (b i:Nat) (v:Value):Kept (fun k=>k=b) w (w.setCell ⟨b,i,none⟩ v):=Kept.setCell (S:=fun k=>k=b) (Kept.refl _ w) (p:=⟨b,i,none⟩) (fun _=>rfl) v
theorem own_kept_none {w w' : World} {base n e s:Nat} {v:Value} {xs:List Value} (h:w.ownsRow base e s v n xs) (hg:w.grownBy w' (Value.slice none 0 0).ownBlock):w'.ownsRow base e s v n xs:=by
 refine h.kept hg ?_
 cases hv:v.ownBlock with
 | none=>exact .inl rfl
 | some g=>exact .inr (by simp [Value.ownBlock])
theorem own_apart {w w' : World} {base n e s n' e' s' : Nat} {v v' : Value} {xs xs' : List Value} (h:w.ownsRow base e s v n xs) (h' : w'.ownsRow w.heap.size e' s' v' n' xs'):v.ownBlock=none∨v.ownBlock≠v'.ownBlock:=by
 cases hv:v.ownBlock with
 | none=>exact .inl rfl
 | some g =>
   refine .inr fun e=>?_
   have h1:=(h.lt g hv).2
   have h2:=(h'.lt g e.symm).1
   omega
theorem rjoin_gen (va0 va1 vb0 vb1:Value) (aB aC bB bC:List Dot) (w:World) (h1:Dots w va0 aB) (h2:Dots w va1 aC) (h3:Dots w vb0 bB) (h4:Dots w vb1 bC) (hl:aB.length+aC.length+bB.length+bC.length≤3000) (hb1:∀d ∈ aB,0≤d.2∧d.2≤1152921504606846976) (hb2:∀d ∈ bB,0≤d.2∧d.2≤1152921504606846976) (hFold:∀k,k<(cnodes (aB++bB) (aC++bC)).length→(((cnodes (aB++bB) (aC++bC)).take k).foldl (jstep aB bB (aC++bC)) ([],[])).1.length≤k∧(((cnodes (aB++bB) (aC++bC)).take k).foldl (jstep aB bB (aC++bC)) ([],[])).2.length+(aC++bC).length≤1000000) :
 Calls Tryz.prog 50 #[.agg #[va0,va1],.agg #[vb0,vb1]] w fun r w'=>∃v0 v1,r=.returned (.agg #[v0,v1])∧Dots w' v0 (cjoin aB aC bB bC).1∧Dots w' v1 (cjoin aB aC bB bC).2∧Pure w w'∧(∀k,v0.rb=some k→w.heap.size≤k)∧(∀k,v1.rb=some k→w.heap.size≤k):=by
 have HFold:=hid hFold
 clear hFold
 have lt1:=Row.lt h1
 have lt2:=Row.lt h2
 have lt3:=Row.lt h3
 have lt4:=Row.lt h4
 obtain ⟨i0,hi,hz0,hz1,hz2⟩:=ipt infoDot
 have Hb1:=hid hb1
 have Hb2:=hid hb2
 clear hb1 hb2
 obtain ⟨a0,c0,rfl⟩:=h1.shape
 obtain ⟨a1,c1,rfl⟩:=h2.shape
 obtain ⟨a2,c2,rfl⟩:=h3.shape
 obtain ⟨a3,c3,rfl⟩:=h4.shape
 obtain ⟨wz,hwz⟩:=qe ((((w.alloc (.cells #[.slice a0 aB.length c0,.slice a1 aC.length c1] 32)).alloc (.cells #[.slice a2 bB.length c2,.slice a3 bC.length c3] 32)).alloc (.cells #[.slice none 0 0,.slice none 0 0] 32)).alloc (.cells #[.slice none 0 0,.slice none 0 0] 32))
 have Hwz:=qh (Pure w wz) (by rw [hwz];exact ((qp.alloc qb _).alloc qc _).alloc qc _)
 have hszz:wz.heap.size=w.heap.size+4:=by rw [hwz];simp
 have hJ:JB w.heap.size (.slice a0 aB.length c0) (.slice a1 aC.length c1) (.slice a2 bB.length c2) (.slice a3 bC.length c3) (.slice none 0 0) (.slice none 0 0) wz wz:=by
  refine ⟨?_,?_,?_,Kept.refl _ _,hszz⟩
  ·rw [hwz];exact bao (bao (bao (ban _ _) _) _) _
  ·rw [hwz];have:=ban (w.alloc (.cells #[.slice a0 aB.length c0,.slice a1 aC.length c1] 32)) (.cells #[.slice a2 bB.length c2,.slice a3 bC.length c3] 32)
   rw [World.size_alloc] at this
   exact bao (bao this _) _
  ·rw [hwz];have:=ban (((w.alloc (.cells #[.slice a0 aB.length c0,.slice a1 aC.length c1] 32)).alloc (.cells #[.slice a2 bB.length c2,.slice a3 bC.length c3] 32)).alloc (.cells #[.slice none 0 0,.slice none 0 0] 32)) (.cells #[.slice none 0 0,.slice none 0 0] 32)
   simpa using this
 have R1:=hid (fun W x0 x1 (h:JB w.heap.size (.slice a0 aB.length c0) (.slice a1 aC.length c1) (.slice a2 bB.length c2) (.slice a3 bC.length c3) x0 x1 wz W)=>(show Dots W (.slice a0 aB.length c0) aB from h.row (Row.pure h1 Hwz.out) lt1))
 have R2:=hid (fun W x0 x1 (h:JB w.heap.size (.slice a0 aB.length c0) (.slice a1 aC.length c1) (.slice a2 bB.length c2) (.slice a3 bC.length c3) x0 x1 wz W)=>(show Dots W (.slice a1 aC.length c1) aC from h.row (Row.pure h2 Hwz.out) lt2))
 have R3:=hid (fun W x0 x1 (h:JB w.heap.size (.slice a0 aB.length c0) (.slice a1 aC.length c1) (.slice a2 bB.length c2) (.slice a3 bC.length c3) x0 x1 wz W)=>(show Dots W (.slice a2 bB.length c2) bB from h.row (Row.pure h3 Hwz.out) lt3))
 have R4:=hid (fun W x0 x1 (h:JB w.heap.size (.slice a0 aB.length c0) (.slice a1 aC.length c1) (.slice a2 bB.length c2) (.slice a3 bC.length c3) x0 x1 wz W)=>(show Dots W (.slice a3 bC.length c3) bC from h.row (Row.pure h4 Hwz.out) lt4))
 have HJ:=hid hJ
 have hres:Hid (wz.heap[w.heap.size+2]?=some (.cells #[.slice none 0 0,.slice none 0 0] 32 (0,0))):=by
  show wz.heap[w.heap.size+2]?=_
  rw [hwz]
  have:=ban ((w.alloc (.cells #[.slice a0 aB.length c0,.slice a1 aC.length c1] 32)).alloc (.cells #[.slice a2 bB.length c2,.slice a3 bC.length c3] 32)) (.cells #[.slice none 0 0,.slice none 0 0] 32)
  rw [World.size_alloc,World.size_alloc] at this
  exact bao this _
 clear h1 h2 h3 h4 hJ lt1 lt2 lt3 lt4
 go_enter Tryz.func50,Tryz.ntmps50
 have e0:∀(W:World) (x0 x1:Value),JB w.heap.size (.slice a0 aB.length c0) (.slice a1 aC.length c1) (.slice a2 bB.length c2) (.slice a3 bC.length c3) x0 x1 wz W→True:=fun _ _ _ _=>trivial
 clear e0
 go_wp2_with (at_builtin;refine wlad rfl _ _ rfl (w.heap.size+4) (.slice none 0 0) [] 0 rfl (World.ownsRow_nil _ _ _ _) _ aB aB.length rfl (by rw [←hwz];exact R1.out _ _ _ HJ.out) oe (by rw [←hwz];omega) ?_)
 rw [←hwz]
 intro v1 w1 hown1 hg1
 have J1:=HJ.out.grown hg1 (fun k hk=>by simp [Value.ownBlock] at hk)
 have hown1' : w1.ownsRow (w.heap.size+4) 28 2 v1 aB.length (dvs aB):=by simpa using hown1
 obtain ⟨x1,y1,rfl⟩:=osd hown1'
 have Hown1:=hid hown1'
 have HJ1:=hid J1
 obtain ⟨f1,f2,f3,f4,f5,f6,f7,f8⟩:=J1.cells
 have hz1:w.heap.size+4≤w1.heap.size:=by have:=J1.k.size;omega
 clear hown1 hown1' hg1 J1 hwz
 go_wp2_with (at_builtin;refine wlad rfl _ _ rfl (w.heap.size+4) _ aB aB.length rfl (own_setCell Hown1.out _ (by show w.heap.size+3<w.heap.size+4;omega) _) _ bB bB.length rfl (R3.out _ _ _ (HJ1.out.set0 _)) oe (by simpa using hz1) ?_)
 intro v2 w2 hown2 hg2
 have J2:=(HJ1.out.set0 (.slice x1 aB.length y1)).grown hg2 (fun k hk=>(Hown1.out.lt k hk).1)
 obtain ⟨x2,y2,rfl⟩:=osd hown2
 have Hown2:=hid hown2
 have HJ2:=hid J2
 clear f1 f2 f3 f4 f5 f6 f7 f8
 obtain ⟨f1,f2,f3,f4,f5,f6,f7,f8⟩:=J2.cells
 have hz2:w.heap.size+4≤w2.heap.size:=by have:=J2.k.size;omega
 clear hown2 hg2 J2 hz1
 go_wp2_with (at_builtin;refine wlad rfl _ _ rfl w2.heap.size (.slice none 0 0) [] 0 rfl (World.ownsRow_nil _ _ _ _) _ aC aC.length rfl (R2.out _ _ _ (HJ2.out.set0 _)) oe qb ?_)
 intro v3 w3 hown3 hg3
 have J3:=(HJ2.out.set0 (.slice x2 (aB.length+bB.length) y2)).grown hg3 (fun k hk=>by simp [Value.ownBlock] at hk)
 have Hown2':=qh (w3.ownsRow (w.heap.size+4) 28 2 (.slice x2 (aB.length+bB.length) y2) (aB.length+bB.length) (dvs (aB++bB))) (own_kept_none (own_setCell Hown2.out ⟨w.heap.size+3,0,none⟩ (by show w.heap.size+3<w.heap.size+4;omega) _) hg3)
 have hown3' : w3.ownsRow w2.heap.size 28 2 v3 aC.length (dvs aC):=by simpa using hown3
 obtain ⟨x3,y3,rfl⟩:=osd hown3'
 have Hown3:=hid hown3'
 have HJ3:=hid J3
 clear f1 f2 f3 f4 f5 f6 f7 f8
 obtain ⟨f1,f2,f3,f4,f5,f6,f7,f8⟩:=J3.cells
 have hz3:w2.heap.size≤w3.heap.size:=by have:=hg3.size;simpa using this
 clear hown3 hown3' hg3 J3
 go_wp2_with (at_builtin;refine wlad rfl _ _ rfl w2.heap.size _ aC aC.length rfl (own_setCell Hown3.out _ (by show w.heap.size+3<w2.heap.size;omega) _) _ bC bC.length rfl (R4.out _ _ _ (HJ3.out.set1 _)) oe (by simpa using hz3) ?_)
 intro v4 w4 hown4 hg4
 have J4:=(HJ3.out.set1 (.slice x3 aC.length y3)).grown hg4 (fun k hk=>by have:=(Hown3.out.lt k hk).1;omega)
 have Hown2'':=qh (w4.ownsRow (w.heap.size+4) 28 2 (.slice x2 (aB.length+bB.length) y2) (aB.length+bB.length) (dvs (aB++bB))) (
  (own_setCell Hown2'.out ⟨w.heap.size+3,1,none⟩ (by show w.heap.size+3<w.heap.size+4;omega) (.slice x3 aC.length y3)).kept hg4 (own_apart Hown2.out Hown3.out))
 obtain ⟨x4,y4,rfl⟩:=osd hown4
 have Hown4:=hid hown4
 have HJ4:=hid (J4.set1 (.slice x4 (aC.length+bC.length) y4))
 have hlt2:=hid (fun k (hk:Value.rb (.slice x2 (aB.length+bB.length) y2)=some k)=>(Hown2''.out.lt k (rb_own hk)).2)
 have hlt4:=hid (fun k (hk:Value.rb (.slice x4 (aC.length+bC.length) y4)=some k)=>(hown4.lt k (rb_own hk)).2)
 clear f1 f2 f3 f4 f5 f6 f7 f8
 obtain ⟨f1,f2,f3,f4,f5,f6,f7,f8⟩:=J4.cells
 have hz4:w.heap.size+4≤w4.heap.size:=by have:=J4.k.size;omega
 clear hown4 hg4 J4 hz3 hz2
 have f5' : w4.cell? ⟨w.heap.size+1+1+1,0,none⟩=some (.slice x2 (aB.length+bB.length) y2):=f5
 have hz4' : w.heap.size+1+1+1<w4.heap.size:=by omega
 clear f5
 obtain ⟨w5,hw5⟩:=qe (((w4.setCell ⟨w.heap.size+1+1+1,1,none⟩ (.slice x4 (aC.length+bC.length) y4)).alloc (.cells #[.slice none 0 0,.slice none 0 0] 32)))
 have hp45:Pure (w4.setCell ⟨w.heap.size+3,1,none⟩ (.slice x4 (aC.length+bC.length) y4)) w5:=by rw [hw5];exact qp
 have HJ5:=hid (HJ4.out.pure hp45)
 have hk45:Kept (fun k=>k=w.heap.size+3) w4 w5:=by rw [hw5];exact (kept_set w4 (w.heap.size+3) 1 (.slice x4 (aC.length+bC.length) y4)).alloc _
 have HX:=qh (Dots w5 (.slice x2 (aB.length+bB.length) y2) (aB++bB)) (by
  have h:=(Row.of_own Hown2''.out).kept hk45 (fun k hk e=>by have:=(Hown2''.out.lt k (rb_own hk)).1;omega)
  unfold Dots;rw [List.length_append];exact h)
 have HY:=qh (Dots w5 (.slice x4 (aC.length+bC.length) y4) (aC++bC)) (by
  have h:=(Row.of_own Hown4.out).kept hk45 (fun k hk e=>by have:=(Hown4.out.lt k (rb_own hk)).1;have:=HJ2.out.k.size;omega)
  unfold Dots;rw [List.length_append];exact h)
 have hout5:w5.heap[w4.heap.size]?=some (.cells #[.slice none 0 0,.slice none 0 0] 32 (0,0)):=by
  rw [hw5];have:=ban (w4.setCell ⟨w.heap.size+1+1+1,1,none⟩ (.slice x4 (aC.length+bC.length) y4)) (.cells #[.slice none 0 0,.slice none 0 0] 32);simpa using this
 have hs5:w5.heap.size=w4.heap.size+1:=by rw [hw5];simp
 have Hout5:=hid hout5
 clear hout5 hk45 hp45
 go_wp2_with fail
 rw [←hw5]
 clear hw5
 refine (rnodes_any _ _ (aB++bB) (aC++bC) w5 HX.out HY.out qc).mono ?_
 rintro e w6 ⟨v6,rfl,hi6,hp6,hrb6⟩
 clear f1 f2 f3 f4 f6 f7 f8 f5'
 obtain ⟨N,hN⟩:=qe (cnodes (aB++bB) (aC++bC))
 rw [←hN] at hi6
 have HN:=hid hN
 obtain ⟨a6,c6,rfl⟩:=hi6.shape
 have HJ6:=hid (HJ5.out.pure hp6)
 have hoz:w.heap.size+4≤w4.heap.size:=hz4
 have HR6:Hid (∀W,Kept (fun k=>k=w4.heap.size) w6 W→W.heap[w.heap.size+2]?=some (.cells #[.slice none 0 0,.slice none 0 0] 32 (0,0))):=fun W hW=>by
  have h1:=hres.out
  have h2:=(HJ6.out.k.block (w.heap.size+2) oe oe).trans h1
  exact (hW.block (w.heap.size+2) (lob h2) oe).trans h2
 have HL6:=qh (JL w4.heap.size w6 (.slice none 0 0) (.slice none 0 0) [] [] w6) (⟨(hp6.block _ oe).trans Hout5.out,World.ownsRow_nil _ _ _ _,World.ownsRow_nil _ _ _ _,fun g h=>by simp [Value.ownBlock] at h,Kept.refl _ _⟩)
 have HF:Hid (∀W,Kept (fun k=>k=w4.heap.size) w6 W→JB w.heap.size (.slice a0 aB.length c0) (.slice a1 aC.length c1) (.slice a2 bB.length c2) (.slice a3 bC.length c3) (.slice x2 (aB.length+bB.length) y2) (.slice x4 (aC.length+bC.length) y4) wz W∧Dots W (.slice x4 (aC.length+bC.length) y4) (aC++bC)∧Ints W (.slice a6 N.length c6) N):=fun W hW=>by
  have hj:=HJ6.out
  refine ⟨⟨(hW.block _ (lob hj.a) oe).trans hj.a,(hW.block _ (lob hj.b) oe).trans hj.b,(hW.block _ (lob hj.both) oe).trans hj.both,?_,hj.s4⟩,?_,?_⟩
  ·exact hj.k.then_ hW (fun i hi e=>by have:=hj.s4;omega)
  ·exact (Row.pure HY.out hp6).kept hW (fun k hk e=>by have:=hlt4.out k hk;omega)
  ·exact hi6.kept hW (fun k hk e=>by have:=hrb6 k hk;omega)
 clear hi6 hp6 hrb6 hN
 go_wp2
 go_loopw [8] (fun i wr=>∃(k:Nat) (y0 y1:Value),k≤N.length∧i=.int .i64 k∧JL w4.heap.size w6 y0 y1 ((N.take k).foldl (jstep aB bB (aC++bC)) ([],[])).1 ((N.take k).foldl (jstep aB bB (aC++bC)) ([],[])).2 wr) (fun i _=>N.length-(RowKit.intOf i).toNat)
 case atStart=>exact ⟨0,_,_,Nat.zero_le _,rfl,HL6.out⟩
 case round =>
  obtain ⟨k,y0,y1,hk,rfl,hL⟩:=hrel
  by_cases hlt:k<N.length
  ·obtain ⟨bn,on,rfl,hbn,cn⟩:=ints_get_j (HF.out wr hL.k).2.2 hlt
   have hlt' : (k:Int)<(N.length:Int):=by omega
   have hcn:=hid (fun W (hW:Kept (fun k=>k=w4.heap.size) w6 W)=>by
    obtain ⟨b',o',e,_,c⟩:=ints_get_j (HF.out W hW).2.2 hlt
    cases e
    exact (show W.cell? ⟨bn,on+k,none⟩=some (.int .i64 (N.getD k 0)) from c))
   have Hstep:=hid (show (N.take (k+1)).foldl (jstep aB bB (aC++bC)) ([],[])=jstep aB bB (aC++bC) ((N.take k).foldl (jstep aB bB (aC++bC)) ([],[])) (N.getD k 0) by rw [take_succ_get N k hlt];simp)
   have hLb:=HFold.out k (by rw [←HN.out];exact hlt)
   rw [←HN.out] at hLb
   have hNl:N.length≤3000:=by rw [HN.out];have:=cnodes_len (aB++bB) (aC++bC);simp at this;omega
   generalize (N.take k).foldl (jstep aB bB (aC++bC)) ([],[])=L at *
   obtain ⟨L0,L1⟩:=L
   dsimp only at hL hLb
   obtain ⟨hLb0,hLb1⟩:=hLb
   generalize N.getD k 0=x at *
   have hS:Hid (∀W,JL w4.heap.size w6 y0 y1 L0 L1 W→(W.cell? ⟨w.heap.size,0,none⟩=some (.slice a0 aB.length c0)∧W.cell? ⟨w.heap.size,1,none⟩=some (.slice a1 aC.length c1)∧W.cell? ⟨w.heap.size+1,0,none⟩=some (.slice a2 bB.length c2)∧W.cell? ⟨w.heap.size+1,1,none⟩=some (.slice a3 bC.length c3)∧W.cell? ⟨w.heap.size+1+1+1,1,none⟩=some (.slice x4 (aC.length+bC.length) y4)∧W.cell? ⟨bn,on+k,none⟩=some (.int .i64 x)∧JL w4.heap.size w6 y0 y1 L0 L1 W)):=fun W hW=>by
    have hc:=(HF.out W hW.k).1.cells
    exact ⟨hc.1,hc.2.1,hc.2.2.1,hc.2.2.2.1,hc.2.2.2.2.2.1,hcn.out W hW.k,hW⟩
   have hS2:Hid (∀W,(W.cell? ⟨w.heap.size,0,none⟩=some (.slice a0 aB.length c0)∧W.cell? ⟨w.heap.size,1,none⟩=some (.slice a1 aC.length c1)∧W.cell? ⟨w.heap.size+1,0,none⟩=some (.slice a2 bB.length c2)∧W.cell? ⟨w.heap.size+1,1,none⟩=some (.slice a3 bC.length c3)∧W.cell? ⟨w.heap.size+1+1+1,1,none⟩=some (.slice x4 (aC.length+bC.length) y4)∧W.cell? ⟨bn,on+k,none⟩=some (.int .i64 x)∧JL w4.heap.size w6 y0 y1 L0 L1 W)→JL w4.heap.size w6 y0 y1 L0 L1 W):=fun W h=>h.2.2.2.2.2.2
   have hba:=hid (fun W (hW:JL w4.heap.size w6 y0 y1 L0 L1 W)=>rbase_any _ (.slice a1 aC.length c1) aB x W (R1.out _ _ _ (HF.out W hW.k).1))
   have hbb:=hid (fun W (hW:JL w4.heap.size w6 y0 y1 L0 L1 W)=>rbase_any _ (.slice a3 bC.length c3) bB x W (R3.out _ _ _ (HF.out W hW.k).1))
   have q1:=cbase_bd Hb1.out oe x
   have q2:=cbase_bd Hb2.out oe x
   generalize hna:cbase aB x=na at *
   generalize hnb:cbase bB x=nb at *
   have Hna:=hid hna
   have Hnb:=hid hnb
   clear hna hnb
   have hst:=hid (hS.out wr.drew (hL.pure qv))
   clear hL cn hbn
   go_wp2_with fail
   go_region_held3 (fun W=>W.cell? ⟨w.heap.size,0,none⟩=some (.slice a0 aB.length c0)∧W.cell? ⟨w.heap.size,1,none⟩=some (.slice a1 aC.length c1)∧W.cell? ⟨w.heap.size+1,0,none⟩=some (.slice a2 bB.length c2)∧W.cell? ⟨w.heap.size+1,1,none⟩=some (.slice a3 bC.length c3)∧W.cell? ⟨w.heap.size+1+1+1,1,none⟩=some (.slice x4 (aC.length+bC.length) y4)∧W.cell? ⟨bn,on+k,none⟩=some (.int .i64 x)∧JL w4.heap.size w6 y0 y1 L0 L1 W)
    (first|with_reducible exact hst.out|with_reducible exact hS.out _ (JL.pure (hS2.out _ qa) qa))
    (first|(go_at_call 108;with_reducible refine (hba.out _ (hS2.out _ qa)).mono ?_;rintro e w7 ⟨rfl,hp7⟩))
   have hx7:JL w4.heap.size w6 y0 y1 L0 L1 w7:=hS2.out _ qa
   have HL7:=hid hx7
   clear hx7 hp7 hst
   have hst:=hid (hS.out w7.drew (HL7.out.pure qv))
   by_cases hgt:na<nb
   ·have hgt' : ¬nb≤na:=by omega
    go_wp2_with fail
    go_region_held3 (fun W=>W.cell? ⟨w.heap.size,0,none⟩=some (.slice a0 aB.length c0)∧W.cell? ⟨w.heap.size,1,none⟩=some (.slice a1 aC.length c1)∧W.cell? ⟨w.heap.size+1,0,none⟩=some (.slice a2 bB.length c2)∧W.cell? ⟨w.heap.size+1,1,none⟩=some (.slice a3 bC.length c3)∧W.cell? ⟨w.heap.size+1+1+1,1,none⟩=some (.slice x4 (aC.length+bC.length) y4)∧W.cell? ⟨bn,on+k,none⟩=some (.int .i64 x)∧JL w4.heap.size w6 y0 y1 L0 L1 W)
     (first|with_reducible exact hst.out|with_reducible exact hS.out _ (JL.pure (hS2.out _ qa) qa))
     (first|(go_at_call 108;with_reducible refine (hbb.out _ (hS2.out _ qa)).mono ?_;rintro e w8 ⟨rfl,hp8⟩))
    have hx:JL w4.heap.size w6 y0 y1 L0 L1 w8:=hS2.out _ qa
    have HL8:=hid hx
    clear hx hp8 hst
    have hst:=hid (hS.out w8.drew (HL8.out.pure qv))
    go_wp2_with fail
    go_region_held3 (fun W=>W.cell? ⟨w.heap.size,0,none⟩=some (.slice a0 aB.length c0)∧W.cell? ⟨w.heap.size,1,none⟩=some (.slice a1 aC.length c1)∧W.cell? ⟨w.heap.size+1,0,none⟩=some (.slice a2 bB.length c2)∧W.cell? ⟨w.heap.size+1,1,none⟩=some (.slice a3 bC.length c3)∧W.cell? ⟨w.heap.size+1+1+1,1,none⟩=some (.slice x4 (aC.length+bC.length) y4)∧W.cell? ⟨bn,on+k,none⟩=some (.int .i64 x)∧JL w4.heap.size w6 y0 y1 L0 L1 W)
     (first|with_reducible exact hst.out|with_reducible exact hS.out _ (JL.pure (hS2.out _ qa) qa))
     (first|(go_at_call 108;with_reducible refine (hbb.out _ (hS2.out _ qa)).mono ?_;rintro e w9 ⟨rfl,hp9⟩))
    have hx:JL w4.heap.size w6 y0 y1 L0 L1 w9:=hS2.out _ qa
    have HL9:=hid hx
    clear hx hp9 hst
    have hst:=hid (hS.out w9.drew (HL9.out.pure qv))
    have hof:=hid (fun W (hW:JL w4.heap.size w6 y0 y1 L0 L1 W)=>rofs_any x nb _ (aC++bC) W (HF.out W hW.k).2.1 qc oe oe)
    have hj:=hid (show jstep aB bB (aC++bC) (L0,L1) x=(if 0<(cof x nb (aC++bC)).1 then L0++[(x,(cof x nb (aC++bC)).1)] else L0,L1++(cof x nb (aC++bC)).2) by unfold jstep;rw [Hna.out,Hnb.out,show max na nb=nb by omega])
    have hblen:=hid (cof_le x nb (aC++bC))
    generalize cof x nb (aC++bC)=R at *
    obtain ⟨R0,R1'⟩:=R
    dsimp only at hof hj hblen
    go_wp2_with fail
    go_region_held3 (fun W=>W.cell? ⟨w.heap.size,0,none⟩=some (.slice a0 aB.length c0)∧W.cell? ⟨w.heap.size,1,none⟩=some (.slice a1 aC.length c1)∧W.cell? ⟨w.heap.size+1,0,none⟩=some (.slice a2 bB.length c2)∧W.cell? ⟨w.heap.size+1,1,none⟩=some (.slice a3 bC.length c3)∧W.cell? ⟨w.heap.size+1+1+1,1,none⟩=some (.slice x4 (aC.length+bC.length) y4)∧W.cell? ⟨bn,on+k,none⟩=some (.int .i64 x)∧JL w4.heap.size w6 y0 y1 L0 L1 W)
     (first|with_reducible exact hst.out|with_reducible exact hS.out _ (JL.pure (hS2.out _ qa) qa))
     (first|(go_at_call 109;with_reducible refine (hof.out _ (hS2.out _ qa)).mono ?_;rintro e w10 ⟨v10,rfl,hown10,hp10⟩;obtain ⟨a10,c10,rfl⟩:=osd hown10))
    have hx:JL w4.heap.size w6 y0 y1 L0 L1 w10:=hS2.out _ qa
    have hap:=hid (apart10 hown10 (hS2.out _ qa))
    have HL10:=hid hx
    have HR:=hid (Row.of_own hown10)
    have hblen':=hblen.out
    have ho6:w4.heap.size<w6.heap.size:=by have:=HL6.out.out;exact lob this
    have h106:w6.heap.size≤w10.heap.size:=HL10.out.k.size
    have nx:=hcn.out w10 HL10.out.k
    obtain ⟨o0,o1,of0,of1⟩:=HL10.out.cells
    have hn10:bn<w10.heap.size:=World.block_lt_of_cell? w10 _ nx
    have ho10:w4.heap.size<w10.heap.size:=lob HL10.out.out
    clear hx hp10 hown10 hst
    by_cases hpos:0<R0
    ·have hstL:Hid (∀(v' : Value) (w' : World),w'.ownsRow w6.heap.size 28 2 v' (L0.length+1) (dvs L0++dvs [(x,R0)])→(w10.drew.alloc (.cells #[.int .i64 x,.int .i64 R0] 28)).grownBy w' y0.ownBlock→FreshOr (w10.drew.alloc (.cells #[.int .i64 x,.int .i64 R0] 28)) y0 v' →
      w'.heap[w4.heap.size]?=some (.cells #[y0,y1] 32 (0,0))∧JL w4.heap.size w6 v' y1 (L0++[(x,R0)]) L1 (w'.setCell ⟨w4.heap.size,0,none⟩ v')∧Row (w'.setCell ⟨w4.heap.size,0,none⟩ v') (.slice a10 R1'.length c10) R1'.length 2 (dvs R1')):=fun v' w' h1 h2 h3=>by
      have hJ:=HL10.out.pure (show Pure w10 (w10.drew.alloc (.cells #[.int .i64 x,.int .i64 R0] 28)) from qv.alloc (Nat.le_refl _) _)
      obtain ⟨g1,g2⟩:=JL.grow0 hJ h2 (L0':=L0++[(x,R0)]) (by rw [dvs_append,List.length_append];exact h1) h3 ho6
      refine ⟨g1,g2,HR.out.same fun g hg=>?_⟩
      obtain ⟨⟨p1,_⟩,p2,p3⟩:=hap.out g hg
      have e1:(w'.setCell ⟨w4.heap.size,0,none⟩ v').heap[g]?=w'.heap[g]?:=(kept_set w' w4.heap.size 0 v').block g (Nat.lt_of_lt_of_le p3 (Nat.le_trans qb h2.size)) p2
      rw [e1,h2.block g qc (fun e=>p1 e.symm)]
      rw [Below.heap_alloc _ _ _ (show g<w10.drew.heap.size from p3)];rfl
     go_wp2_with fail
     go_region_law (refine step_append_own2 rfl (.tmp 78) (.tmp 85) 30 rfl w6.heap.size 28 i0 (.agg #[.int .i64 0,.int .i64 0]) 2 16 Tryz.underlying30 hi hz0 hz1 hz2 rfl qd y0 L0.length (dvs L0) (by simp [Act.eval]) (World.ownsRow.alloc HL10.out.r0 _) ⟨w10.heap.size,0,none⟩ 1 1 (dvs [(x,R0)]) (by simp [Act.eval]) rfl (dots_lit_cells _ x R0) (dvs_one _) (by unfold maxLen;omega) oe qc ?_;intro v' w' hown' hg' hf';obtain ⟨hb',hL',hR'⟩:=hstL.out v' w' hown' hg' hf';have s1:w'.cell? ⟨w4.heap.size,0,none⟩=some y0:=cob hb' 0;have s2:w'.frozen? ⟨w4.heap.size,0,none⟩=false:=fob hb' 0;have s3:w'.cell? ⟨w4.heap.size,1,none⟩=some y1:=cob hb' 1;have s4:w'.frozen? ⟨w4.heap.size,1,none⟩=false:=fob hb' 1;clear hb';obtain ⟨a9,c9,rfl⟩:=osd hown';have HL11:=hid hL';have HR11:=hid hR';clear hown' hg' hf' hL' hR')
     all_goals
      go_wp2_with (at_builtin;refine wpList_append_rows2 rfl _ _ 30 rfl w6.heap.size 28 i0 (.agg #[.int .i64 0,.int .i64 0]) 2 16 Tryz.underlying30 hi hz0 hz1 hz2 rfl qd qd y1 L1.length (dvs L1) rfl HL11.out.r1 _ R1'.length (dvs R1') rfl HR11.out (dvs_one _) oe HL11.out.k.size ?_)
      intro v12 w12 hown12 hg12 hf12
      obtain ⟨hb12,hL12⟩:=JL.grow1 HL11.out hg12 (L1':=L1++R1') (by rw [dvs_append,List.length_append];exact hown12) hf12 ho6
      have u1:w12.cell? ⟨w4.heap.size,1,none⟩=some y1:=cob hb12 1
      have u2:w12.frozen? ⟨w4.heap.size,1,none⟩=false:=fob hb12 1
      obtain ⟨a12,c12,rfl⟩:=osd hown12
      have HL12:=hid hL12
      clear hown12 hg12 hf12 hb12 hL12
      go_wp2
      go_roundw
      (case rel=>exact ⟨k+1,_,_,by omega,by go_num,by rw [Hstep.out,hj.out];simp only [hpos,if_true];exact HL12.out⟩)
      (case measure=>simp [RowKit.intOf];omega)
    ·have hpos' : R0≤0:=by omega
     go_wp2_with (at_builtin;refine wpList_append_rows2 rfl _ _ 30 rfl w6.heap.size 28 i0 (.agg #[.int .i64 0,.int .i64 0]) 2 16 Tryz.underlying30 hi hz0 hz1 hz2 rfl qd qd y1 L1.length (dvs L1) rfl HL10.out.r1 _ R1'.length (dvs R1') rfl HR.out (dvs_one _) oe HL10.out.k.size ?_)
     intro v12 w12 hown12 hg12 hf12
     obtain ⟨hb12,hL12⟩:=JL.grow1 HL10.out hg12 (L1':=L1++R1') (by rw [dvs_append,List.length_append];exact hown12) hf12 ho6
     have u1:w12.cell? ⟨w4.heap.size,1,none⟩=some y1:=cob hb12 1
     have u2:w12.frozen? ⟨w4.heap.size,1,none⟩=false:=fob hb12 1
     obtain ⟨a12,c12,rfl⟩:=osd hown12
     have HL12:=hid hL12
     clear hown12 hg12 hf12 hb12 hL12
     go_wp2
     go_roundw
     (case rel=>exact ⟨k+1,_,_,by omega,by go_num,by rw [Hstep.out,hj.out];rw [if_neg (show ¬0<R0 by omega)];exact HL12.out⟩)
     (case measure=>simp [RowKit.intOf];omega)
   ·have hgt' : nb≤na:=by omega
    go_wp2_with fail
    go_region_held3 (fun W=>W.cell? ⟨w.heap.size,0,none⟩=some (.slice a0 aB.length c0)∧W.cell? ⟨w.heap.size,1,none⟩=some (.slice a1 aC.length c1)∧W.cell? ⟨w.heap.size+1,0,none⟩=some (.slice a2 bB.length c2)∧W.cell? ⟨w.heap.size+1,1,none⟩=some (.slice a3 bC.length c3)∧W.cell? ⟨w.heap.size+1+1+1,1,none⟩=some (.slice x4 (aC.length+bC.length) y4)∧W.cell? ⟨bn,on+k,none⟩=some (.int .i64 x)∧JL w4.heap.size w6 y0 y1 L0 L1 W)
     (first|with_reducible exact hst.out|with_reducible exact hS.out _ (JL.pure (hS2.out _ qa) qa))
     (first|(go_at_call 108;with_reducible refine (hbb.out _ (hS2.out _ qa)).mono ?_;rintro e w9 ⟨rfl,hp9⟩))
    have hx:JL w4.heap.size w6 y0 y1 L0 L1 w9:=hS2.out _ qa
    have HL9:=hid hx
    clear hx hp9 hst
    have hst:=hid (hS.out w9.drew (HL9.out.pure qv))
    have hof:=hid (fun W (hW:JL w4.heap.size w6 y0 y1 L0 L1 W)=>rofs_any x na _ (aC++bC) W (HF.out W hW.k).2.1 qc oe oe)
    have hj:=hid (show jstep aB bB (aC++bC) (L0,L1) x=(if 0<(cof x na (aC++bC)).1 then L0++[(x,(cof x na (aC++bC)).1)] else L0,L1++(cof x na (aC++bC)).2) by unfold jstep;rw [Hna.out,Hnb.out,show max na nb=na by omega])
    have hblen:=hid (cof_le x na (aC++bC))
    generalize cof x na (aC++bC)=R at *
    obtain ⟨R0,R1'⟩:=R
    dsimp only at hof hj hblen
    go_wp2_with fail
    go_region_held3 (fun W=>W.cell? ⟨w.heap.size,0,none⟩=some (.slice a0 aB.length c0)∧W.cell? ⟨w.heap.size,1,none⟩=some (.slice a1 aC.length c1)∧W.cell? ⟨w.heap.size+1,0,none⟩=some (.slice a2 bB.length c2)∧W.cell? ⟨w.heap.size+1,1,none⟩=some (.slice a3 bC.length c3)∧W.cell? ⟨w.heap.size+1+1+1,1,none⟩=some (.slice x4 (aC.length+bC.length) y4)∧W.cell? ⟨bn,on+k,none⟩=some (.int .i64 x)∧JL w4.heap.size w6 y0 y1 L0 L1 W)
     (first|with_reducible exact hst.out|with_reducible exact hS.out _ (JL.pure (hS2.out _ qa) qa))
     (first|(go_at_call 109;with_reducible refine (hof.out _ (hS2.out _ qa)).mono ?_;rintro e w10 ⟨v10,rfl,hown10,hp10⟩;obtain ⟨a10,c10,rfl⟩:=osd hown10))
    have hx:JL w4.heap.size w6 y0 y1 L0 L1 w10:=hS2.out _ qa
    have hap:=hid (apart10 hown10 (hS2.out _ qa))
    have HL10:=hid hx
    have HR:=hid (Row.of_own hown10)
    have hblen':=hblen.out
    have ho6:w4.heap.size<w6.heap.size:=by have:=HL6.out.out;exact lob this
    have h106:w6.heap.size≤w10.heap.size:=HL10.out.k.size
    have nx:=hcn.out w10 HL10.out.k
    obtain ⟨o0,o1,of0,of1⟩:=HL10.out.cells
    have hn10:bn<w10.heap.size:=World.block_lt_of_cell? w10 _ nx
    have ho10:w4.heap.size<w10.heap.size:=lob HL10.out.out
    clear hx hp10 hown10 hst
    by_cases hpos:0<R0
    ·have hstL:Hid (∀(v' : Value) (w' : World),w'.ownsRow w6.heap.size 28 2 v' (L0.length+1) (dvs L0++dvs [(x,R0)])→(w10.drew.alloc (.cells #[.int .i64 x,.int .i64 R0] 28)).grownBy w' y0.ownBlock→FreshOr (w10.drew.alloc (.cells #[.int .i64 x,.int .i64 R0] 28)) y0 v' →
      w'.heap[w4.heap.size]?=some (.cells #[y0,y1] 32 (0,0))∧JL w4.heap.size w6 v' y1 (L0++[(x,R0)]) L1 (w'.setCell ⟨w4.heap.size,0,none⟩ v')∧Row (w'.setCell ⟨w4.heap.size,0,none⟩ v') (.slice a10 R1'.length c10) R1'.length 2 (dvs R1')):=fun v' w' h1 h2 h3=>by
      have hJ:=HL10.out.pure (show Pure w10 (w10.drew.alloc (.cells #[.int .i64 x,.int .i64 R0] 28)) from qv.alloc (Nat.le_refl _) _)
      obtain ⟨g1,g2⟩:=JL.grow0 hJ h2 (L0':=L0++[(x,R0)]) (by rw [dvs_append,List.length_append];exact h1) h3 ho6
      refine ⟨g1,g2,HR.out.same fun g hg=>?_⟩
      obtain ⟨⟨p1,_⟩,p2,p3⟩:=hap.out g hg
      have e1:(w'.setCell ⟨w4.heap.size,0,none⟩ v').heap[g]?=w'.heap[g]?:=(kept_set w' w4.heap.size 0 v').block g (Nat.lt_of_lt_of_le p3 (Nat.le_trans qb h2.size)) p2
      rw [e1,h2.block g qc (fun e=>p1 e.symm)]
      rw [Below.heap_alloc _ _ _ (show g<w10.drew.heap.size from p3)];rfl
     go_wp2_with fail
     go_region_law (refine step_append_own2 rfl (.tmp 78) (.tmp 85) 30 rfl w6.heap.size 28 i0 (.agg #[.int .i64 0,.int .i64 0]) 2 16 Tryz.underlying30 hi hz0 hz1 hz2 rfl qd y0 L0.length (dvs L0) (by simp [Act.eval]) (World.ownsRow.alloc HL10.out.r0 _) ⟨w10.heap.size,0,none⟩ 1 1 (dvs [(x,R0)]) (by simp [Act.eval]) rfl (dots_lit_cells _ x R0) (dvs_one _) (by unfold maxLen;omega) oe qc ?_;intro v' w' hown' hg' hf';obtain ⟨hb',hL',hR'⟩:=hstL.out v' w' hown' hg' hf';have s1:w'.cell? ⟨w4.heap.size,0,none⟩=some y0:=cob hb' 0;have s2:w'.frozen? ⟨w4.heap.size,0,none⟩=false:=fob hb' 0;have s3:w'.cell? ⟨w4.heap.size,1,none⟩=some y1:=cob hb' 1;have s4:w'.frozen? ⟨w4.heap.size,1,none⟩=false:=fob hb' 1;clear hb';obtain ⟨a9,c9,rfl⟩:=osd hown';have HL11:=hid hL';have HR11:=hid hR';clear hown' hg' hf' hL' hR')
     all_goals
      go_wp2_with (at_builtin;refine wpList_append_rows2 rfl _ _ 30 rfl w6.heap.size 28 i0 (.agg #[.int .i64 0,.int .i64 0]) 2 16 Tryz.underlying30 hi hz0 hz1 hz2 rfl qd qd y1 L1.length (dvs L1) rfl HL11.out.r1 _ R1'.length (dvs R1') rfl HR11.out (dvs_one _) oe HL11.out.k.size ?_)
      intro v12 w12 hown12 hg12 hf12
      obtain ⟨hb12,hL12⟩:=JL.grow1 HL11.out hg12 (L1':=L1++R1') (by rw [dvs_append,List.length_append];exact hown12) hf12 ho6
      have u1:w12.cell? ⟨w4.heap.size,1,none⟩=some y1:=cob hb12 1
      have u2:w12.frozen? ⟨w4.heap.size,1,none⟩=false:=fob hb12 1
      obtain ⟨a12,c12,rfl⟩:=osd hown12
      have HL12:=hid hL12
      clear hown12 hg12 hf12 hb12 hL12
      go_wp2
      go_roundw
      (case rel=>exact ⟨k+1,_,_,by omega,by go_num,by rw [Hstep.out,hj.out];simp only [hpos,if_true];exact HL12.out⟩)
      (case measure=>simp [RowKit.intOf];omega)
    ·have hpos' : R0≤0:=by omega
     go_wp2_with (at_builtin;refine wpList_append_rows2 rfl _ _ 30 rfl w6.heap.size 28 i0 (.agg #[.int .i64 0,.int .i64 0]) 2 16 Tryz.underlying30 hi hz0 hz1 hz2 rfl qd qd y1 L1.length (dvs L1) rfl HL10.out.r1 _ R1'.length (dvs R1') rfl HR.out (dvs_one _) oe HL10.out.k.size ?_)
     intro v12 w12 hown12 hg12 hf12
     obtain ⟨hb12,hL12⟩:=JL.grow1 HL10.out hg12 (L1':=L1++R1') (by rw [dvs_append,List.length_append];exact hown12) hf12 ho6
     have u1:w12.cell? ⟨w4.heap.size,1,none⟩=some y1:=cob hb12 1
     have u2:w12.frozen? ⟨w4.heap.size,1,none⟩=false:=fob hb12 1
     obtain ⟨a12,c12,rfl⟩:=osd hown12
     have HL12:=hid hL12
     clear hown12 hg12 hf12 hb12 hL12
     go_wp2
     go_roundw
     (case rel=>exact ⟨k+1,_,_,by omega,by go_num,by rw [Hstep.out,hj.out];rw [if_neg (show ¬0<R0 by omega)];exact HL12.out⟩)
     (case measure=>simp [RowKit.intOf];omega)
  ·have hlt' : ¬(k:Int)<(N.length:Int):=by omega
   rw [List.take_of_length_le oe] at hL
   have hcj:=hid (show cjoin aB aC bB bC=N.foldl (jstep aB bB (aC++bC)) ([],[]) by rw [HN.out];rfl)
   generalize N.foldl (jstep aB bB (aC++bC)) ([],[])=L at *
   obtain ⟨L0,L1⟩:=L
   dsimp only at hL
   obtain ⟨o0,o1,_,_⟩:=hL.cells
   have hres:=HR6.out wr hL.k
   have r0:wr.cell? ⟨w.heap.size+1+1,0,none⟩=some (.slice none 0 0):=cob hres 0
   have r1:wr.cell? ⟨w.heap.size+1+1,1,none⟩=some (.slice none 0 0):=cob hres 1
   have r2:wr.frozen? ⟨w.heap.size+1+1,0,none⟩=false:=fob hres 0
   have r3:wr.frozen? ⟨w.heap.size+1+1,1,none⟩=false:=fob hres 1
   have HL:=hid hL
   obtain ⟨p0,k0,rfl⟩:=osd hL.r0
   obtain ⟨p1,k1,rfl⟩:=osd hL.r1
   have t0:(wr.setCell ⟨w.heap.size+1+1,0,none⟩ (.slice p0 L0.length k0)).cell? ⟨w.heap.size+1+1,0,none⟩=some (.slice p0 L0.length k0):=by
    rw [cob (bsc hres 0 (.slice p0 L0.length k0)) 0];simp
   have t1:((wr.setCell ⟨w.heap.size+1+1,0,none⟩ (.slice p0 L0.length k0)).setCell ⟨w.heap.size+1+1,1,none⟩ (.slice p1 L1.length k1)).cell? ⟨w.heap.size+1+1,1,none⟩=some (.slice p1 L1.length k1):=by
    rw [cob (bsc (bsc hres 0 (.slice p0 L0.length k0)) 1 (.slice p1 L1.length k1)) 1];simp
   have T0:=hid t0
   have T1:=hid t1
   clear hL hres t0 t1
   have hfin:Hid (Dots ((wr.setCell ⟨w.heap.size+1+1,0,none⟩ (.slice p0 L0.length k0)).setCell ⟨w.heap.size+1+1,1,none⟩ (.slice p1 L1.length k1)) (.slice p0 L0.length k0) L0 ∧
    Dots ((wr.setCell ⟨w.heap.size+1+1,0,none⟩ (.slice p0 L0.length k0)).setCell ⟨w.heap.size+1+1,1,none⟩ (.slice p1 L1.length k1)) (.slice p1 L1.length k1) L1 ∧
    Pure w ((wr.setCell ⟨w.heap.size+1+1,0,none⟩ (.slice p0 L0.length k0)).setCell ⟨w.heap.size+1+1,1,none⟩ (.slice p1 L1.length k1))∧(∀k,Value.rb (.slice p0 L0.length k0)=some k→w.heap.size≤k)∧(∀k,Value.rb (.slice p1 L1.length k1)=some k→w.heap.size≤k)):=by
    have hlt6:w.heap.size+1+1<w6.heap.size:=by have:=lob HL6.out.out;omega
    refine ⟨Row.of_own (own_setCell (own_setCell HL.out.r0 _ hlt6 _) _ hlt6 _),Row.of_own (own_setCell (own_setCell HL.out.r1 _ hlt6 _) _ hlt6 _),?_,fun k hk=>by have:=(HL.out.r0.lt k (rb_own hk)).1;omega,fun k hk=>by have:=(HL.out.r1.lt k (rb_own hk)).1;omega⟩
    have hk1:Kept (fun k=>w.heap.size≤k) wz w6:=HJ6.out.k.mono (fun k _ e=>by omega)
    have hk2:Kept (fun k=>w.heap.size≤k) wz wr:=hk1.trans (HL.out.k.mono (fun k _ e=>by omega))
    have hk3:Kept (fun k=>w.heap.size≤k) wz ((wr.setCell ⟨w.heap.size+1+1,0,none⟩ (.slice p0 L0.length k0)).setCell ⟨w.heap.size+1+1,1,none⟩ (.slice p1 L1.length k1)) :=
     (hk2.setCell (fun _=>by show w.heap.size≤w.heap.size+1+1;omega) _).setCell (fun _=>by show w.heap.size≤w.heap.size+1+1;omega) _
    exact Below.trans Hwz.out (hk3.below Hwz.out.size (fun k hk e=>by omega))
   go_wp2
   refine bodyPost_ret (v:=.agg #[.slice p0 L0.length k0,.slice p1 L1.length k1]) (by simp [results,Tryz.results50,go_sem,T0.out,T1.out]) rfl ⟨_,_,rfl,?_⟩
   rw [hcj.out]
   exact hfin.out
theorem rjoin_any (va0 va1 vb0 vb1:Value) (aB aC bB bC:List Dot) (w:World) (h1:Dots w va0 aB) (h2:Dots w va1 aC) (h3:Dots w vb0 bB) (h4:Dots w vb1 bC) (hl:aB.length+aC.length+bB.length+bC.length≤1000) (hb1:∀d ∈ aB,0≤d.2∧d.2≤1152921504606846976) (hb2:∀d ∈ bB,0≤d.2∧d.2≤1152921504606846976) :
 Calls Tryz.prog 50 #[.agg #[va0,va1],.agg #[vb0,vb1]] w fun r w'=>∃v0 v1,r=.returned (.agg #[v0,v1])∧Dots w' v0 (cjoin aB aC bB bC).1∧Dots w' v1 (cjoin aB aC bB bC).2∧Pure w w'∧(∀k,v0.rb=some k→w.heap.size≤k)∧(∀k,v1.rb=some k→w.heap.size≤k) :=
 rjoin_gen va0 va1 vb0 vb1 aB aC bB bC w h1 h2 h3 h4 oe hb1 hb2 (fun k hk=>by
  have hn:=cnodes_len (aB++bB) (aC++bC)
  simp only [List.length_append] at hn
  obtain ⟨f1,f2⟩:=jfold_bd aB bB (aC++bC) (fun node u=>cof_len node u _ qc) _ k (Nat.le_of_lt hk)
  refine ⟨f1,?_⟩
  simp only [List.length_append]
  omega)
end Go.Proofs.YtdlpnhfgjficgaaGreat
