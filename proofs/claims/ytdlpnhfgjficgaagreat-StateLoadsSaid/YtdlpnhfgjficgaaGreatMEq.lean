import Derived.Test.YtdlpnhfgjficgaaGreatMX26
import Derived.Test.YtdlpnhfgjficgaaGreatMNum
namespace Go.Proofs.YtdlpnhfgjficgaaGreat
section
set_option maxHeartbeats 4000000
set_option maxRecDepth 8000
open Go.RowKit Go.Maps Go.Shelf Go.Sort
def jtk (aB bB cl:List Dot) (x:Int):Int × List Dot:=takenL (max (cbase aB x) (cbase bB x)) (onode cl x)
def jput (aB bB cl:List Dot) (s:List Dot × List Dot) (x:Int):List Dot × List Dot:=(if 0<(jtk aB bB cl x).1 then s.1++[(x,(jtk aB bB cl x).1)] else s.1,s.2++(jtk aB bB cl x).2)
theorem jput_step (aB bB cl:List Dot):jput aB bB (dsort cl)=jstep aB bB cl:=by
 funext s x
 have e:jtk aB bB (dsort cl) x=cof x (max (cbase aB x) (cbase bB x)) cl:=by rw [cof_taken];rfl
 unfold jput jstep
 rw [e]
theorem takenL_len:∀(l:List Dot) (u:Int),(takenL u l).2.length≤l.length
 | [],u=>by simp [takenL]
 | d::l,u=>by
   unfold takenL
   split
   ·simp
   ·have:=takenL_len l (max u d.2);simp;omega
theorem takenL_bd:∀(l:List Dot) (u M:Int),0≤u→u≤M→(∀d ∈ l,d.2≤M)→0≤(takenL u l).1∧(takenL u l).1≤M
 | [],u,M,h0,h1,_=>⟨h0,h1⟩
 | d::l,u,M,h0,h1,h=>by
   unfold takenL
   have hd:=h d qb
   split
   ·exact ⟨h0,h1⟩
   ·exact takenL_bd l _ M oe oe (fun x hx=>h x (List.mem_cons_of_mem _ hx))
structure PutW (na nb nq o:Nat) (va0 va1 vb0 vb1 vq:Value) (aB bB cl:List Dot) (w6:World):Prop where
 a:w6.heap[na]?=some (.cells #[va0,va1] 32 (0,0))
 b:w6.heap[nb]?=some (.cells #[vb0,vb1] 32 (0,0))
 q:w6.heap[nq]?=some (.cells #[vq] 30 (0,0))
 ao:na≠o
 bo:nb≠o
 qo:nq≠o
 o6:o<w6.heap.size
 ra:Dots w6 va0 aB
 rb:Dots w6 vb0 bB
 rq:Dots w6 vq cl
 xa:∀k,va0.rb=some k→k≠o
 xb:∀k,vb0.rb=some k→k≠o
 xq:∀k,vq.rb=some k→k≠o
 sa:Rise aB
 sb:Rise bB
 ba:∀d ∈ aB,0≤d.2∧d.2≤1152921504606846976
 bb:∀d ∈ bB,0≤d.2∧d.2≤1152921504606846976
 bq:∀d ∈ cl,d.2≤1152921504606846976
 la:aB.length≤3000
 lb:bB.length≤3000
 lq:cl.length≤3000
def PutS (na nb nq:Nat) (va0 va1 vb0 vb1 vq:Value) (W0 W:World):Prop :=
 W.cell? ⟨na,0,none⟩=some va0∧W.cell? ⟨na,1,none⟩=some va1∧W.cell? ⟨nb,0,none⟩=some vb0∧W.cell? ⟨nb,1,none⟩=some vb1∧W.cell? ⟨nq,0,none⟩=some vq∧Pure W0 W
theorem PutW.st {na nb nq o:Nat} {va0 va1 vb0 vb1 vq:Value} {aB bB cl:List Dot} {w6 W0 W:World} (h:PutW na nb nq o va0 va1 vb0 vb1 vq aB bB cl w6) (hk:Kept (fun k=>k=o) w6 W0) (hp:Pure W0 W):PutS na nb nq va0 va1 vb0 vb1 vq W0 W:=by
 have hK:=hk.trans (hp.kept (S:=fun k=>k=o))
 have ea:=(hK.block _ (lob h.a) h.ao).trans h.a
 have eb:=(hK.block _ (lob h.b) h.bo).trans h.b
 have eq:=(hK.block _ (lob h.q) h.qo).trans h.q
 exact ⟨cob ea 0,cob ea 1,cob eb 0,cob eb 1,cob eq 0,hp⟩
def PutP (o:Nat) (w6:World) (aB bB cl:List Dot) (L0 L1:List Dot) (x:Int) (e:Ending) (w' : World):Prop :=
 e=.returned (.tuple #[])∧∃y0 y1,JL o w6 y0 y1 (jput aB bB cl (L0,L1) x).1 (jput aB bB cl (L0,L1) x).2 w'
theorem apart9 {o base n:Nat} {w6 W w9 w10:World} {y0 y1 v9 v10:Value} {L0 L1:List Dot} {xs:List Value} (h:w9.ownsRow base 28 2 v9 n xs) (hb:W.heap.size≤base) (hp:Pure w9 w10) (hL:JL o w6 y0 y1 L0 L1 W) (hr:∀k,v10.rb=some k→v9.rb=some k):∀g,v10.rb=some g→(y0.ownBlock≠some g∧y1.ownBlock≠some g)∧g≠o∧g<w10.heap.size:=by
 intro g hg
 obtain ⟨g1,g2⟩:=h.lt g (rb_own (hr g hg))
 have ho:=lob hL.out
 have:=hp.size
 exact ⟨⟨fun e=>by have:=(hL.r0.lt g e).2;omega,fun e=>by have:=(hL.r1.lt g e).2;omega⟩,by omega,by omega⟩
theorem put_any (na nb nq o:Nat) (va0 va1 vb0 vb1 vq:Value) (aB bB cl:List Dot) (w6 W0:World) (h:PutW na nb nq o va0 va1 vb0 vb1 vq aB bB cl w6) (x:Int) (y0 y1:Value) (L0 L1:List Dot) (hL:JL o w6 y0 y1 L0 L1 W0) (l0:L0.length≤100000) (l1:L1.length≤997000) :
 Calls Tryz.prog 181 (#[.int .i64 x] ++ #[.pointer (some ⟨na,0,none⟩),.pointer (some ⟨nb,0,none⟩),.pointer (some ⟨nq,0,none⟩),.pointer (some ⟨o,0,none⟩)]) W0 (PutP o w6 aB bB cl L0 L1 x):=by
 obtain ⟨i0,hi,hz0,hz1,hz2⟩:=ipt infoDot
 have hS:=hid (fun W (hW:Pure W0 W)=>h.st hL.k hW)
 have hst:=hid (hS.out W0.drew qv)
 have hS2:=hid (fun W (hW:PutS na nb nq va0 va1 vb0 vb1 vq W0 W)=>hW.2.2.2.2.2)
 have hrow:∀{v:Value} {l:List Dot},Dots w6 v l→(∀k,v.rb=some k→k≠o)→∀W,Pure W0 W→Dots W v l:=fun hv hx W hW=>Row.pure (Row.kept hv hL.k (fun k hk e=>hx k hk e)) hW
 have hua:=hid (fun W (hW:Pure W0 W)=>upto_any va0 va1 aB x W (hrow h.ra h.xa W hW) h.sa (fun d hd=>(h.ba d hd).1) (by have:=h.la;omega))
 have hub:=hid (fun W (hW:Pure W0 W)=>upto_any vb0 vb1 bB x W (hrow h.rb h.xb W hW) h.sb (fun d hd=>(h.bb d hd).1) (by have:=h.lb;omega))
 have hof:=hid (fun W (hW:Pure W0 W)=>of_any vq cl x W (hrow h.rq h.xq W hW) (by have:=h.lq;omega))
 obtain ⟨a0,a1⟩:=cbase_bd h.ba qd x
 obtain ⟨b0,b1⟩:=cbase_bd h.bb qd x
 have hon:∀d ∈ onode cl x,d.2≤1152921504606846976:=fun d hd=>h.bq d (List.mem_filter.1 hd).1
 obtain ⟨M,hM⟩:=qe (max (cbase aB x) (cbase bB x))
 have htk:=hid (fun W v u (hu:u=M) (hv:Dots W v (onode cl x))=>(taken_any u v (onode cl x) W hv oe oe hon).mono (fun e w' hk=>(show (∃v',e=.returned (.tuple #[.int .i64 (takenL M (onode cl x)).1,v'])∧Dots w' v' (takenL M (onode cl x)).2∧(∀k,v'.rb=some k→v.rb=some k)∧Pure W w') from by
  subst hu;obtain ⟨⟨v',h1,h2,h3⟩,h4⟩:=hk;exact ⟨v',h1,h2,h3,h4⟩)))
 have hR:=hid (takenL_bd (onode cl x) M 1152921504606846976 oe oe hon)
 have hRl:=qh ((takenL M (onode cl x)).2.length≤3000) (Nat.le_trans (takenL_len _ _) (Nat.le_trans (List.length_filter_le _ _) h.lq))
 have HL:=hid hL
 have Ho:=hid h.o6
 unfold PutP jput jtk
 clear hL h hrow hon
 unfold cv at *
 unfold PutS at *
 have hmx:(if cbase aB x<cbase bB x then cbase bB x else cbase aB x)=M:=by omega
 rw [←hM]
 generalize cbase aB x=A at *
 generalize cbase bB x=B at *
 have hmm:=hid hM
 clear hM
 generalize takenL M (onode cl x)=R at *
 obtain ⟨R0,R1⟩:=R
 dsimp only at htk hR hRl ⊢
 go_enter Tryz.func181,Tryz.ntmps181
 go_wp2_with fail
 go_region_held3 (fun W=>W.cell? ⟨na,0,none⟩=some va0∧W.cell? ⟨na,1,none⟩=some va1∧W.cell? ⟨nb,0,none⟩=some vb0∧W.cell? ⟨nb,1,none⟩=some vb1∧W.cell? ⟨nq,0,none⟩=some vq∧Pure W0 W)
  (exact qz)
  ((first
    | (go_at_call 183;(with_reducible refine (hua.out _ (hS2.out _ qa)).mono ?_);rintro e w7 ⟨rfl,hp7⟩)
    | (go_at_call 183;(with_reducible refine (hub.out _ (hS2.out _ qa)).mono ?_);rintro e w8 ⟨rfl,hp8⟩)
    | (go_at_call 184;(with_reducible refine (hof.out _ (hS2.out _ qa)).mono ?_);rintro e w9 ⟨v9,rfl,hd9,hp9⟩;obtain ⟨a9,c9,rfl⟩:=osd hd9)
    | (go_at_call 182;refine (htk.out _ _ _ oe (Row.of_own hd9)).mono ?_;rintro e w10 ⟨v10,rfl,hd10,hrb10,hp10⟩;obtain ⟨a10,c10,rfl⟩:=hd10.shape)))
 all_goals
  have hW10:Pure W0 w10:=hS2.out w10 qa
  have hb9:=qh (W0.heap.size≤w9.heap.size) (by have h7:=hp7.size;have h8:=hp8.size;have h9:=hp9.size;have h0:W0.drew.heap.size=W0.heap.size:=rfl;omega)
  have hap:=hid (apart9 hd9 (show W0.heap.size≤_ from by have h7:=hp7.size;have h8:=hp8.size;have h9:=hp9.size;have h0:W0.drew.heap.size=W0.heap.size:=rfl;omega) hp10 HL.out hrb10)
  have HL10:=hid (HL.out.pure hW10)
  have HR:=hid hd10
  clear hst hS hS2 hua hub hof htk hp7 hp8 hp9 hp10 hd9 hd10 hrb10 hb9 hW10
  obtain ⟨r0,r1⟩:=hR.out
  have hRl':=hRl.out
  have ho6:=Ho.out
  have h106:w6.heap.size≤w10.heap.size:=HL10.out.k.size
  obtain ⟨o0,o1,of0,of1⟩:=HL10.out.cells
  by_cases hpos:0<R0
  ·have hstL:Hid (∀(v' : Value) (w' : World),w'.ownsRow w6.heap.size 28 2 v' (L0.length+1) (dvs L0++dvs [(x,R0)])→(w10.alloc (.cells #[.int .i64 x,.int .i64 R0] 28)).grownBy w' y0.ownBlock→FreshOr (w10.alloc (.cells #[.int .i64 x,.int .i64 R0] 28)) y0 v' →
    w'.heap[o]?=some (.cells #[y0,y1] 32 (0,0))∧JL o w6 v' y1 (L0++[(x,R0)]) L1 (w'.setCell ⟨o,0,none⟩ v')∧Row (w'.setCell ⟨o,0,none⟩ v') (.slice a10 R1.length c10) R1.length 2 (dvs R1)):=fun v' w' h1 h2 h3=>by
    have hJ:=HL10.out.pure (show Pure w10 (w10.alloc (.cells #[.int .i64 x,.int .i64 R0] 28)) from qp)
    obtain ⟨g1,g2⟩:=JL.grow0 hJ h2 (L0':=L0++[(x,R0)]) (by rw [dvs_append,List.length_append];exact h1) h3 ho6
    refine ⟨g1,g2,Row.same HR.out fun g hg=>?_⟩
    obtain ⟨⟨p1,_⟩,p2,p3⟩:=hap.out g hg
    have e1:(w'.setCell ⟨o,0,none⟩ v').heap[g]?=w'.heap[g]?:=(kept_set w' o 0 v').block g (Nat.lt_of_lt_of_le p3 (Nat.le_trans qb h2.size)) p2
    rw [e1,h2.block g qc (fun e=>p1 e.symm)]
    rw [Below.heap_alloc _ _ _ p3]
   have hpos':=hid hpos
   go_wp2_with (at_builtin;refine wpList_append_rows2 rfl _ _ 30 rfl w6.heap.size 28 i0 (.agg #[.int .i64 0,.int .i64 0]) 2 16 Tryz.underlying30 hi hz0 hz1 hz2 rfl qd qd y0 L0.length (dvs L0) rfl (World.ownsRow.alloc HL10.out.r0 _) _ 1 (dvs [(x,R0)]) rfl (dots_lit _ x R0) (dvs_one _) oe qc ?_)
   intro v' w' hown' hg' hf'
   obtain ⟨hb',hL',hR'⟩:=hstL.out v' w' hown' hg' hf'
   have s1:w'.cell? ⟨o,0,none⟩=some y0:=cob hb' 0
   have s2:w'.frozen? ⟨o,0,none⟩=false:=fob hb' 0
   have s3:w'.cell? ⟨o,1,none⟩=some y1:=cob hb' 1
   have s4:w'.frozen? ⟨o,1,none⟩=false:=fob hb' 1
   obtain ⟨a9,c9,rfl⟩:=osd hown'
   have HL11:=hid hL'
   have HR11:=hid hR'
   clear hb' hown' hg' hf' hL' hR' hstL
   go_wp2_with (at_builtin;refine wpList_append_rows2 rfl _ _ 30 rfl w6.heap.size 28 i0 (.agg #[.int .i64 0,.int .i64 0]) 2 16 Tryz.underlying30 hi hz0 hz1 hz2 rfl qd qd y1 L1.length (dvs L1) rfl HL11.out.r1 _ R1.length (dvs R1) rfl HR11.out (dvs_one _) oe HL11.out.k.size ?_)
   intro v12 w12 hown12 hg12 hf12
   obtain ⟨hb12,hL12⟩:=JL.grow1 HL11.out hg12 (L1':=L1++R1) (by rw [dvs_append,List.length_append];exact hown12) hf12 ho6
   have u1:w12.cell? ⟨o,1,none⟩=some y1:=cob hb12 1
   have u2:w12.frozen? ⟨o,1,none⟩=false:=fob hb12 1
   obtain ⟨a12,c12,rfl⟩:=osd hown12
   have HL12:=hid hL12
   clear hown12 hg12 hf12 hb12 hL12
   go_wp2
   go_end0
   exact ⟨rfl,_,_,HL12.out⟩
  ·have hpos':=hid hpos
   have hle:R0≤0:=by omega
   go_wp2_with (at_builtin;refine wpList_append_rows2 rfl _ _ 30 rfl w6.heap.size 28 i0 (.agg #[.int .i64 0,.int .i64 0]) 2 16 Tryz.underlying30 hi hz0 hz1 hz2 rfl qd qd y1 L1.length (dvs L1) rfl HL10.out.r1 _ R1.length (dvs R1) rfl HR.out (dvs_one _) oe HL10.out.k.size ?_)
   intro v12 w12 hown12 hg12 hf12
   obtain ⟨hb12,hL12⟩:=JL.grow1 HL10.out hg12 (L1':=L1++R1) (by rw [dvs_append,List.length_append];exact hown12) hf12 ho6
   have u1:w12.cell? ⟨o,1,none⟩=some y1:=cob hb12 1
   have u2:w12.frozen? ⟨o,1,none⟩=false:=fob hb12 1
   obtain ⟨a12,c12,rfl⟩:=osd hown12
   have HL12:=hid hL12
   clear hown12 hg12 hf12 hb12 hL12
   go_wp2
   go_end0
   exact ⟨rfl,_,_,HL12.out⟩
end
section
set_option maxHeartbeats 2000000
open Go.RowKit Go.Maps
theorem bs_inj {l k:List UInt8} (h:bs l=bs k):l=k:=by
 have:=congrArg (fun b:ByteArray=>b.data.toList) h
 simpa [bs] using this
theorem toList_iff (X Y:ByteArray):X.toList=Y.toList↔X=Y:=by
 rw [ByteArray.toList_eq,ByteArray.toList_eq]
 constructor
 ·intro h
  have:X.data=Y.data:=Array.toList_inj.1 h
  cases X;cases Y;simpa using this
 ·rintro rfl;rfl
theorem msg_eqIn (W:World) (u v x y c d:Int) (Q B R S:ByteArray):(Op.equalIn 10000 43 (.agg #[.int .i64 u,.int .i64 v,.string Q,.string B,.int .i64 c]) (.agg #[.int .i64 x,.int .i64 y,.string R,.string S,.int .i64 d])).run Tryz.prog W=.ok (decide (u=x) && decide (v=y) && decide (Q=R) && decide (B=S) && decide (c=d)) W:=by
 have hu:=Tryz.underlying43
 have hi:=Tryz.underlying3
 have hs:=Tryz.underlying9
 have hc:Tryz.prog.cellsOf 3=1:=by kernel_rfl
 have hc2:Tryz.prog.cellsOf 9=1:=by kernel_rfl
 have hc3:Tryz.prog.cellsOf 28=2:=by kernel_rfl
 have hf:Tryz.prog.underlying 43=some (.struct (Tryz.prog.fieldsOf 43)):=by simp only [Program.fieldsOf,hu]
 rw [run_equalIn_struct W 9999 43 _ _ hf qk]
 simp only [Program.fieldsOf,hu]
 clear hu hf
 by_cases h1:u=x <;> by_cases h2:v=y <;> by_cases h3:Q=R <;> by_cases h4:B=S <;> by_cases h5:c=d <;> simp [Op.eqFields,go_sem,h1,h2,h3,h4,h5,toList_iff]
theorem msame_short {l k:List Msg} (h:l.length≠k.length):decide (l=k)=false:=by simp;exact fun e=>h (by rw [e])
theorem msame_take {l k:List Msg} {i:Nat} (h:l.take i=k.take i) (h1:i<l.length) (h2:i<k.length) (e:l.getD i m0=k.getD i m0):l.take (i+1)=k.take (i+1):=by
 rw [take_succ_m l i h1,take_succ_m k i h2,h,e]
theorem msame_full {l k:List Msg} (h:l.length=k.length) (e:l.take l.length=k.take l.length):decide (l=k)=true:=by rw [List.take_length,h,List.take_length] at e;simp [e]
theorem msame_not {l k:List Msg} {i:Nat} (e:¬l.getD i m0=k.getD i m0):decide (l=k)=false:=by simp;exact fun h=>e (by rw [h])
theorem rmsame_any (v u:Value) (l k:List Msg) (w:World) (hv:Msgs w v l) (hu:Msgs w u k) :
 Calls Tryz.prog 135 #[v,u] w fun e w'=>e=.returned (.bool (decide (l=k)))∧Pure w w':=by
 obtain ⟨a,ca,rfl⟩:=hv.shape
 obtain ⟨b,cb,rfl⟩:=hu.shape
 have h2:l.length≤maxLen:=Row.len_le hv
 have h4:k.length≤maxLen:=Row.len_le hu
 unfold maxLen at h2 h4
 have Hv:=hid hv
 have Hu:=hid hu
 have heq:=msg_eqIn
 clear hv hu
 by_cases hl:l.length=k.length
 ·have hne:((l.length:Int) != (k.length:Int))=false:=by simp [hl]
  have hl1:l.length≤k.length:=by omega
  have hl2:k.length≤l.length:=by omega
  have Hl:=hid hl
  clear hl
  go_enter Tryz.func135,Tryz.ntmps135
  go_wp2
  go_loopw [5] (fun x wr=>∃i:Nat,i≤l.length∧x=.int .i64 i∧l.take i=k.take i∧∃n,wr=w.drewN n) (fun x _=>l.length-(RowKit.intOf x).toNat)
  case atStart=>exact ⟨0,Nat.zero_le _,rfl,by simp,0,rfl⟩
  case round =>
   obtain ⟨i,hi,rfl,ht,n,rfl⟩:=hrel
   by_cases hlt:i<l.length
   ·have hlk:i<k.length:=by omega
    obtain ⟨ba,oa,rfl,_,c0,c1,c2,c3,c4⟩:=Msgs.get Hv.out hlt
    obtain ⟨bb,ob,rfl,_,d0,d1,d2,d3,d4⟩:=Msgs.get Hu.out hlk
    have Hs:=hid (msame_take ht hlt hlk)
    have Hn:=hid (@msame_not l k i)
    have hlt' : (i:Int)<(l.length:Int):=by omega
    have hlk' : (i:Int)<(k.length:Int):=by omega
    clear ht
    generalize l.getD i m0=x at *
    generalize k.getD i m0=y at *
    obtain ⟨⟨x1,x2⟩,xq,xb,xc⟩:=x
    obtain ⟨⟨y1,y2⟩,yq,yb,yc⟩:=y
    dsimp only at c0 c1 c2 c3 c4 d0 d1 d2 d3 d4
    by_cases hxy:x1=y1∧x2=y2∧xq=yq∧xb=yb∧xc=yc
    ·obtain ⟨rfl,rfl,rfl,rfl,rfl⟩:=hxy
     have Hs':=hid (Hs.out rfl)
     clear Hs Hn
     go_wp2_with fail
     go_quiet (fail)
     go_wp2
     go_roundw
     case rel=>exact ⟨i+1,by omega,by go_num,Hs'.out,_,rfl⟩
     case measure=>simp [RowKit.intOf];omega
    ·have hb:(decide (x1=y1) && decide (x2=y2) && decide (bs xq=bs yq) && decide (bs xb=bs yb) && decide (xc=yc))=false:=by
      rw [Bool.eq_false_iff]
      intro h
      simp only [Bool.and_eq_true,decide_eq_true_eq] at h
      exact hxy ⟨h.1.1.1.1,h.1.1.1.2,bs_inj h.1.1.2,bs_inj h.1.2,h.2⟩
     have Hf:=hid (Hn.out (fun e=>hxy (by cases e;exact ⟨rfl,rfl,rfl,rfl,rfl⟩)))
     generalize bs xq=XQ at *
     generalize bs yq=YQ at *
     generalize bs xb=XB at *
     generalize bs yb=YB at *
     clear hxy Hs Hn
     go_wp2_with fail
     go_quiet (fail)
     go_wp2
     go_ret
     exact ⟨ret_bool Hf.out.symm,(pdN _ n).then_ (pdN _ _)⟩
   ·have e:i=l.length:=by omega
    subst e
    have hlt' : ¬(l.length:Int)<(l.length:Int):=by omega
    have Hf:=hid (msame_full Hl.out ht)
    clear ht
    go_wp2
    go_ret
    exact ⟨ret_bool Hf.out.symm,pdN _ _⟩
 ·have Hf:=hid (msame_short hl)
  have hne:((l.length:Int) != (k.length:Int))=true:=by simp;omega
  go_enter Tryz.func135,Tryz.ntmps135
  go_wp2
  go_ret
  exact ⟨ret_bool Hf.out.symm,Below.refl _ _⟩
theorem mmsame_any (v u:Value) (l k:List Msg) (w:World) (hv:Msgs w v l) (hu:Msgs w u k) :
 Calls Tryz.prog 134 #[v,u] w fun e w'=>e=.returned (.bool (decide (l=k)))∧Pure w w':=by
 obtain ⟨a,ca,rfl⟩:=hv.shape
 obtain ⟨b,cb,rfl⟩:=hu.shape
 have h2:l.length≤maxLen:=Row.len_le hv
 have h4:k.length≤maxLen:=Row.len_le hu
 unfold maxLen at h2 h4
 have Hv:=hid hv
 have Hu:=hid hu
 have heq:=msg_eqIn
 clear hv hu
 by_cases hl:l.length=k.length
 ·have hne:((l.length:Int) != (k.length:Int))=false:=by simp [hl]
  have hl1:l.length≤k.length:=by omega
  have hl2:k.length≤l.length:=by omega
  have Hl:=hid hl
  clear hl
  go_enter Tryz.func134,Tryz.ntmps134
  go_wp2
  go_loopw [5,13] (fun _ x wr=>∃i:Nat,i≤l.length∧x=.int .i64 i∧l.take i=k.take i∧∃n,wr=w.drewN n) (fun _ x _=>l.length-(RowKit.intOf x).toNat)
  case atStart=>exact ⟨0,Nat.zero_le _,rfl,by simp,0,rfl⟩
  case round =>
   obtain ⟨i,hi,rfl,ht,n,rfl⟩:=hrel
   by_cases hlt:i<l.length
   ·have hlk:i<k.length:=by omega
    obtain ⟨ba,oa,rfl,_,c0,c1,c2,c3,c4⟩:=Msgs.get Hv.out hlt
    obtain ⟨bb,ob,rfl,_,d0,d1,d2,d3,d4⟩:=Msgs.get Hu.out hlk
    have Hs:=hid (msame_take ht hlt hlk)
    have Hn:=hid (@msame_not l k i)
    have hlt' : (i:Int)<(l.length:Int):=by omega
    have hlk' : (i:Int)<(k.length:Int):=by omega
    clear ht
    generalize l.getD i m0=x at *
    generalize k.getD i m0=y at *
    obtain ⟨⟨x1,x2⟩,xq,xb,xc⟩:=x
    obtain ⟨⟨y1,y2⟩,yq,yb,yc⟩:=y
    dsimp only at c0 c1 c2 c3 c4 d0 d1 d2 d3 d4
    by_cases hxy:x1=y1∧x2=y2∧xq=yq∧xb=yb∧xc=yc
    ·obtain ⟨rfl,rfl,rfl,rfl,rfl⟩:=hxy
     have Hs':=hid (Hs.out rfl)
     clear Hs Hn
     go_wp2_with fail
     go_quiet (fail)
     go_wp2
     go_roundw
     case rel=>exact ⟨i+1,by omega,by go_num,Hs'.out,_,rfl⟩
     case measure=>simp [RowKit.intOf];omega
    ·have hb:(decide (x1=y1) && decide (x2=y2) && decide (bs xq=bs yq) && decide (bs xb=bs yb) && decide (xc=yc))=false:=by
      rw [Bool.eq_false_iff]
      intro h
      simp only [Bool.and_eq_true,decide_eq_true_eq] at h
      exact hxy ⟨h.1.1.1.1,h.1.1.1.2,bs_inj h.1.1.2,bs_inj h.1.2,h.2⟩
     have Hf:=hid (Hn.out (fun e=>hxy (by cases e;exact ⟨rfl,rfl,rfl,rfl,rfl⟩)))
     generalize bs xq=XQ at *
     generalize bs yq=YQ at *
     generalize bs xb=XB at *
     generalize bs yb=YB at *
     clear hxy Hs Hn
     go_wp2_with fail
     go_quiet (fail)
     go_wp2
     go_ret
     exact ⟨ret_bool Hf.out.symm,(pdN _ n).then_ (pdN _ _)⟩
   ·have e:i=l.length:=by omega
    subst e
    have hlt' : ¬(l.length:Int)<(l.length:Int):=by omega
    have Hf:=hid (msame_full Hl.out ht)
    clear ht
    go_wp2
    go_ret
    exact ⟨ret_bool Hf.out.symm,pdN _ _⟩
 ·have Hf:=hid (msame_short hl)
  have hne:((l.length:Int) != (k.length:Int))=true:=by simp;omega
  go_enter Tryz.func134,Tryz.ntmps134
  go_wp2
  go_ret
  exact ⟨ret_bool Hf.out.symm,Below.refl _ _⟩
end
section
set_option maxHeartbeats 1000000
open Go.RowKit Go.Maps
theorem bag_eq (g h:Bag):decide (g=h)=(decide (g.1=h.1) && (decide (g.2.1=h.2.1) && decide (g.2.2=h.2.2))):=by
 obtain ⟨a,b,c⟩:=g
 obtain ⟨x,y,z⟩:=h
 by_cases h1:a=x <;> by_cases h2:b=y <;> by_cases h3:c=z <;> simp [h1,h2,h3]
theorem mbsame_any (v u:Value) (g h:Bag) (w:World) (hg:BagAt w v g) (hh:BagAt w u h) :
 Calls Tryz.prog 76 #[v,u] w fun e w'=>e=.returned (.bool (decide (g=h)))∧Pure w w':=by
 obtain ⟨v0,v1,v2,rfl,g0,g1,g2⟩:=hg
 obtain ⟨u0,u1,u2,rfl,h0,h1,h2⟩:=hh
 rw [bag_eq]
 obtain ⟨GL,GB,GC⟩:=g
 obtain ⟨HL,HB,HC⟩:=h
 dsimp only at *
 obtain ⟨wz,hwz⟩:=qe ((w.alloc (.cells #[v0,v1,v2] 34)).alloc (.cells #[u0,u1,u2] 34))
 have Hwz:=qh (Pure w wz) (by rw [hwz];exact qp.alloc qb _)
 have b0:wz.heap[w.heap.size]?=some (.cells #[v0,v1,v2] 34 (0,0)):=by rw [hwz];exact bao (ban _ _) _
 have b1:wz.heap[w.heap.size+1]?=some (.cells #[u0,u1,u2] 34 (0,0)):=by
  rw [hwz];have:=ban (w.alloc (.cells #[v0,v1,v2] 34)) (.cells #[u0,u1,u2] 34)
  simpa using this
 have hp:=hid (fun W (hW:Pure wz W)=>Hwz.out.then_ hW)
 have s1:=hid (fun W (hW:Pure wz W)=>mmsame_any v0 u0 GL HL W (Row.pure g0 (hp.out W hW)) (Row.pure h0 (hp.out W hW)))
 have s2:=hid (fun W (hW:Pure wz W)=>mcsame_any v1 v2 u1 u2 GB GC HB HC W (Row.pure g1 (hp.out W hW)) (Row.pure g2 (hp.out W hW)) (Row.pure h1 (hp.out W hW)) (Row.pure h2 (hp.out W hW)))
 obtain ⟨a0,c0,rfl⟩:=g0.shape
 obtain ⟨a1,c1,rfl⟩:=g1.shape
 obtain ⟨a2,c2,rfl⟩:=g2.shape
 obtain ⟨a3,c3,rfl⟩:=h0.shape
 obtain ⟨a4,c4,rfl⟩:=h1.shape
 obtain ⟨a5,c5,rfl⟩:=h2.shape
 have B0:=hid b0
 have B1:=hid b1
 clear g0 g1 g2 h0 h1 h2 b0 b1
 generalize decide (GL=HL)=X at *
 generalize (decide (GB=HB) && decide (GC=HC))=Y at *
 go_enter Tryz.func76,Tryz.ntmps76
 go_wp2_with fail
 rw [←hwz]
 clear hwz
 refine (s2.out wz (Below.refl _ _)).mono ?_
 rintro e w1 ⟨rfl,hp1⟩
 have e0:=(hp1.block _ (lob B0.out)).trans B0.out
 have e1:=(hp1.block _ (lob B1.out)).trans B1.out
 have f0:w1.cell? ⟨w.heap.size,0,none⟩=some (.slice a0 GL.length c0):=cob e0 0
 have f1:w1.cell? ⟨w.heap.size+1,0,none⟩=some (.slice a3 HL.length c3):=cob e1 0
 have Hp1:=hid hp1
 clear e0 e1 hp1
 cases Y with
 | false =>
   go_wp2
   go_ret
   exact ⟨ret_bool qb,hp.out w1 Hp1.out⟩
 | true =>
   go_wp2_with fail
   refine (s1.out w1 Hp1.out).mono ?_
   rintro e w2 ⟨rfl,hp2⟩
   have Hp2:=hid ((hp.out w1 Hp1.out).then_ hp2)
   clear hp2
   go_wp2
   go_ret
   exact ⟨ret_bool qb,Hp2.out⟩
theorem rbsame_any (v u:Value) (g h:Bag) (w:World) (hg:BagAt w v g) (hh:BagAt w u h) :
 Calls Tryz.prog 78 #[v,u] w fun e w'=>e=.returned (.bool (decide (g=h)))∧Pure w w':=by
 obtain ⟨v0,v1,v2,rfl,g0,g1,g2⟩:=hg
 obtain ⟨u0,u1,u2,rfl,h0,h1,h2⟩:=hh
 rw [bag_eq]
 obtain ⟨GL,GB,GC⟩:=g
 obtain ⟨HL,HB,HC⟩:=h
 dsimp only at *
 obtain ⟨wz,hwz⟩:=qe ((w.alloc (.cells #[v0,v1,v2] 34)).alloc (.cells #[u0,u1,u2] 34))
 have Hwz:=qh (Pure w wz) (by rw [hwz];exact qp.alloc qb _)
 have b0:wz.heap[w.heap.size]?=some (.cells #[v0,v1,v2] 34 (0,0)):=by rw [hwz];exact bao (ban _ _) _
 have b1:wz.heap[w.heap.size+1]?=some (.cells #[u0,u1,u2] 34 (0,0)):=by
  rw [hwz];have:=ban (w.alloc (.cells #[v0,v1,v2] 34)) (.cells #[u0,u1,u2] 34)
  simpa using this
 have hp:=hid (fun W (hW:Pure wz W)=>Hwz.out.then_ hW)
 have s1:=hid (fun W (hW:Pure wz W)=>rmsame_any v0 u0 GL HL W (Row.pure g0 (hp.out W hW)) (Row.pure h0 (hp.out W hW)))
 have s2:=hid (fun W (hW:Pure wz W)=>rcsame_any v1 v2 u1 u2 GB GC HB HC W (Row.pure g1 (hp.out W hW)) (Row.pure g2 (hp.out W hW)) (Row.pure h1 (hp.out W hW)) (Row.pure h2 (hp.out W hW)))
 obtain ⟨a0,c0,rfl⟩:=g0.shape
 obtain ⟨a1,c1,rfl⟩:=g1.shape
 obtain ⟨a2,c2,rfl⟩:=g2.shape
 obtain ⟨a3,c3,rfl⟩:=h0.shape
 obtain ⟨a4,c4,rfl⟩:=h1.shape
 obtain ⟨a5,c5,rfl⟩:=h2.shape
 have B0:=hid b0
 have B1:=hid b1
 clear g0 g1 g2 h0 h1 h2 b0 b1
 generalize decide (GL=HL)=X at *
 generalize (decide (GB=HB) && decide (GC=HC))=Y at *
 go_enter Tryz.func78,Tryz.ntmps78
 go_wp2_with fail
 rw [←hwz]
 clear hwz
 refine (s1.out wz (Below.refl _ _)).mono ?_
 rintro e w1 ⟨rfl,hp1⟩
 have e0:=(hp1.block _ (lob B0.out)).trans B0.out
 have e1:=(hp1.block _ (lob B1.out)).trans B1.out
 have f0:w1.cell? ⟨w.heap.size,1,none⟩=some (.slice a1 GB.length c1):=cob e0 1
 have f1:w1.cell? ⟨w.heap.size+1,1,none⟩=some (.slice a4 HB.length c4):=cob e1 1
 have f2:w1.cell? ⟨w.heap.size,2,none⟩=some (.slice a2 GC.length c2):=cob e0 2
 have f3:w1.cell? ⟨w.heap.size+1,2,none⟩=some (.slice a5 HC.length c5):=cob e1 2
 have Hp1:=hid hp1
 clear e0 e1 hp1
 go_wp2_with fail
 refine (s2.out w1 Hp1.out).mono ?_
 rintro e w2 ⟨rfl,hp2⟩
 have Hp2:=hid ((hp.out w1 Hp1.out).then_ hp2)
 clear hp2
 cases X <;>
 ·go_wp2
  go_ret
  exact ⟨rfl,Hp2.out⟩
end
end Go.Proofs.YtdlpnhfgjficgaaGreat
