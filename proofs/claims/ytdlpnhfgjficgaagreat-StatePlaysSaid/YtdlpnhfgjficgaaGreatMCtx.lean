import Derived.Test.YtdlpnhfgjficgaaGreatMDot
import Derived.Deep.RegionLawGrows
namespace Go.Proofs.YtdlpnhfgjficgaaGreat
section
set_option maxHeartbeats 1000000
open Go.RowKit Go.Maps
def cbase (l:List Dot) (node:Int):Int:=((l.find? fun d=>d.1 == node).map (·.2)).getD 0
theorem cbase_hit {l:List Dot} {k:Nat} {node:Int} (h:k<l.length) (hn:∀d ∈ l.take k,d.1≠node) (hx:(l.getD k (0,0)).1=node):cbase l node=(l.getD k (0,0)).2:=by
 have e:l=l.take k++l.getD k (0,0)::l.drop (k+1):=by
  have h1:l.getD k (0,0)=l[k]:=by simp [List.getD,h]
  rw [h1,List.getElem_cons_drop,List.take_append_drop]
 unfold cbase
 have:l.find? (fun d=>d.1 == node)=some (l.getD k (0,0)):=by
  refine (congrArg _ e).trans ?_
  rw [List.find?_append,List.find?_eq_none.2 (fun d hd=>by simpa using hn d hd)]
  rw [List.find?_cons_of_pos (by exact beq_iff_eq.2 hx)];rfl
 rw [this];rfl
theorem cbase_none {l:List Dot} {node:Int} (hn:∀d ∈ l,d.1≠node):cbase l node=0:=by
 unfold cbase
 rw [List.find?_eq_none.2 (fun d hd=>by simpa using hn d hd)];rfl
theorem rbase_any (vb vc:Value) (l:List Dot) (node:Int) (w:World) (hr:Dots w vb l) :
 Calls Tryz.prog 108 #[.agg #[vb,vc],.int .i64 node] w fun r w'=>r=.returned (.int .i64 (cbase l node))∧Pure w w':=by
 obtain ⟨a,cap,rfl⟩:=hr.shape
 have hll:l.length≤maxLen:=Row.len_le hr
 unfold maxLen at hll
 have Hr:=hid hr
 have hp:=qh (∀o,Pure w (w.alloc o)) (fun o=>(Below.refl _ _).alloc (Nat.le_refl _) o)
 clear hr
 go_enter Tryz.func108,Tryz.ntmps108
 go_wp2
 go_loop [5] (fun i=>∃k:Nat,k≤l.length∧i=.int .i64 k∧∀d ∈ l.take k,d.1≠node) (fun i=>l.length-(RowKit.intOf i).toNat)
 case atStart=>exact ⟨0,Nat.zero_le _,rfl,by simp⟩
 case round =>
  obtain ⟨k,hk,rfl,hno⟩:=hrel
  by_cases hlt:k<l.length
  ·obtain ⟨b,off,rfl,hb,c0,c1⟩:=Dots.get (show Dots (w.alloc (.cells #[.slice a l.length cap,vc] 32)) (.slice a l.length cap) l from Row.pure Hr.out (hp.out _)) hlt
   have hlt' : (k:Int)<(l.length:Int):=by omega
   have Hstep:Hid ((l.getD k (0,0)).1≠node→∀d ∈ l.take (k+1),d.1≠node):=fun h d hd=>by
    rw [tsd l k hlt,List.mem_append,List.mem_singleton] at hd
    rcases hd with hd|rfl
    ·exact hno d hd
    ·exact h
   have Hhit:=hid (cbase_hit hlt hno)
   clear hno
   generalize l.getD k (0,0)=z at *
   obtain ⟨z1,z2⟩:=z
   dsimp only at c0 c1
   by_cases he:z1=node
   ·subst he
    have Hx:=hid (Hhit.out rfl)
    go_wp2
    go_ret
    exact ⟨ret_int Hx.out.symm,hp.out _⟩
   ·have he' : (z1 == node)=false:=by simp [he]
    have Hs:=hid (Hstep.out he)
    go_wp2
    go_round
    case rel=>exact ⟨k+1,by omega,by go_num,Hs.out⟩
    case measure=>simp [RowKit.intOf];omega
  ·have hlt' : ¬(k:Int)<(l.length:Int):=by omega
   rw [List.take_of_length_le oe] at hno
   have Hx:=hid (cbase_none hno)
   clear hno
   go_wp2
   go_ret
   exact ⟨ret_int Hx.out.symm,hp.out _⟩
end
section
set_option maxHeartbeats 2000000
open Go.RowKit Go.Maps
def cstep (s:Int × List Dot) (d:Dot):Int × List Dot:=if d.2=s.1+1 then (s.1+1,s.2) else if s.1<d.2 then (s.1,s.2++[d]) else s
def cfold (upto:Int) (l:List Dot):Int × List Dot:=l.foldl cstep (upto,[])
def cof (node upto:Int) (beyond:List Dot):Int × List Dot:=cfold upto ((dsort beyond).filter fun d=>d.1 == node)
theorem cfold_take (upto:Int) (l:List Dot) (k:Nat) (h:k<l.length):cfold upto (l.take (k+1))=cstep (cfold upto (l.take k)) (l.getD k (0,0)):=by
 rw [tsd l k h];simp [cfold]
theorem cstep_bd (s:Int × List Dot) (d:Dot):s.1≤(cstep s d).1∧(cstep s d).1≤s.1+1∧(cstep s d).2.length≤s.2.length+1:=by
 unfold cstep;split
 ·exact ⟨by simp;omega,by simp,by simp⟩
 ·split
  ·exact ⟨by simp,by simp;omega,by simp⟩
  ·exact ⟨by simp,by omega,by omega⟩
theorem cfold_bd (upto:Int) (l:List Dot):∀k,k≤l.length→upto≤(cfold upto (l.take k)).1∧(cfold upto (l.take k)).1≤upto+k∧(cfold upto (l.take k)).2.length≤k
 | 0,_=>by simp [cfold]
 | k+1,h=>by
   obtain ⟨h1,h2,h3⟩:=cfold_bd upto l k oe
   obtain ⟨g1,g2,g3⟩:=cstep_bd (cfold upto (l.take k)) (l.getD k (0,0))
   rw [cfold_take upto l k oe]
   exact ⟨by omega,by omega,by omega⟩
theorem dsort_len (l:List Dot):(dsort l).length≤l.length:=by
 have:=dsort_len_take l l.length (Nat.le_refl _)
 rwa [List.take_length] at this
theorem rofs_any (node upto:Int) (v:Value) (beyond:List Dot) (w:World) (hr:Dots w v beyond) (hl:beyond.length≤100000) (h0:0≤upto) (h1:upto≤1152921504606846976) :
 Calls Tryz.prog 109 #[.int .i64 node,.int .i64 upto,v] w fun r w'=>∃v',r=.returned (.tuple #[.int .i64 (cof node upto beyond).1,v'])∧w'.ownsRow w.heap.size 28 2 v' (cof node upto beyond).2.length (dvs (cof node upto beyond).2)∧Pure w w':=by
 have hs:=hid (rsort_any v beyond w hr hl)
 have hdl:=dsort_len beyond
 have ho:=hid (fun W u (hu:Dots W u (dsort beyond))=>rof_any u (dsort beyond) node W hu oe)
 obtain ⟨a,cap,rfl⟩:=hr.shape
 have hfl:((dsort beyond).filter fun d=>d.1 == node).length≤100000:=Nat.le_trans (List.length_filter_le _ _) oe
 unfold cof
 clear hr
 generalize (dsort beyond).filter (fun d=>d.1 == node)=l at *
 go_enter Tryz.func109,Tryz.ntmps109
 go_wp2_with fail
 refine hs.out.mono ?_
 rintro e w1 ⟨v1,rfl,hown1,hp1⟩
 have Ho:=hid (ho.out w1 v1 (Row.of_own hown1))
 obtain ⟨a1,c1,rfl⟩:=osd hown1
 have Hp1:=hid hp1
 clear hown1 hp1 hs ho
 generalize (dsort beyond).length=N1 at *
 go_wp2_with fail
 refine Ho.out.mono ?_
 rintro e w2 ⟨v2,rfl,hi2,hp2⟩
 have Hr:=hid hi2
 have Hp2:=hid (Hp1.out.then_ hp2)
 obtain ⟨a2,c2,rfl⟩:=hi2.shape
 clear hi2 hp2 Ho
 go_wp2_with fail
 go_loopw [1,9,10] (fun u v i wr=>∃k:Nat,k≤l.length∧i=.int .i64 k∧u=.int .i64 (cfold upto (l.take k)).1∧wr.ownsRow w2.heap.size 28 2 v (cfold upto (l.take k)).2.length (dvs (cfold upto (l.take k)).2)∧Pure w2 wr) (fun _ _ i _=>l.length-(RowKit.intOf i).toNat)
 case atStart=>exact ⟨0,Nat.zero_le _,rfl,rfl,World.ownsRow_nil _ _ _ _,Below.refl _ _⟩
 case round =>
  obtain ⟨k,hk,rfl,rfl,hown,hp⟩:=hrel
  by_cases hlt:k<l.length
  ·obtain ⟨b,off,rfl,hb,c0,c1'⟩:=Dots.get (show Dots wr (.slice a2 l.length c2) l from Row.pure Hr.out hp) hlt
   have hlt' : (k:Int)<(l.length:Int):=by omega
   have hstep:=cfold_take upto l k hlt
   obtain ⟨b1,b2,b3⟩:=cfold_bd upto l k hk
   generalize cfold upto (l.take k)=s at *
   obtain ⟨u,Y⟩:=s
   dsimp only at b1 b2 b3 hown
   obtain ⟨a3,c3,rfl⟩:=osd hown
   have Hown:=hid hown
   have Hp:=hid hp
   have Hstep:=hid hstep
   clear hown hp hstep
   generalize l.getD k (0,0)=z at *
   obtain ⟨z1,z2⟩:=z
   dsimp only at c0 c1'
   have hwr:IntKind.i64.wrap (u+1)=u+1:=IntWalk.i64_in _ oe
   by_cases he:z2=u+1
   ·have he' : (z2 == u+1)=true:=by simp [he]
    have Hx:=hid (show cfold upto (l.take (k+1))=(u+1,Y) by rw [Hstep.out];simp [cstep,he])
    clear he
    go_wp2
    go_roundw
    case rel=>exact ⟨k+1,by omega,by go_num,by rw [Hx.out],by rw [Hx.out];exact Hown.out,Hp.out⟩
    case measure=>simp [RowKit.intOf];omega
   ·have he' : (z2 == u+1)=false:=by simp [he]
    by_cases hgt:u<z2
    ·have Hx:=hid (show cfold upto (l.take (k+1))=(u,Y++[(z1,z2)]) by rw [Hstep.out];simp [cstep,he,hgt])
     have b4:w2.heap.size≤(wr.alloc (.cells #[.int .i64 z1,.int .i64 z2] 28)).heap.size:=by have:=Hp.out.size;simp;omega
     clear he
     go_wp2_with (at_builtin;refine wlad rfl _ _ rfl w2.heap.size _ Y Y.length rfl (Hown.out.alloc _) _ [(z1,z2)] 1 rfl (dots_lit wr z1 z2) oe b4 ?_)
     intro v3 w3 hown3 hg3
     have Hown3:=hid hown3
     have hpn:=hid ((Hp.out.alloc Hp.out.size _).grown hg3 (by have:=Hp.out.size;simp;omega) (fun k hk=>(Hown.out.lt k hk).1))
     clear hown3 hg3
     go_wp2
     go_roundw
     case rel=>exact ⟨k+1,by omega,by go_num,by rw [Hx.out],by rw [Hx.out];simpa using Hown3.out,hpn.out⟩
     case measure=>simp [RowKit.intOf];omega
    ·have Hx:=hid (show cfold upto (l.take (k+1))=(u,Y) by rw [Hstep.out];simp [cstep,he,hgt])
     clear he
     go_wp2
     go_roundw
     case rel=>exact ⟨k+1,by omega,by go_num,by rw [Hx.out],by rw [Hx.out];exact Hown.out,Hp.out⟩
     case measure=>simp [RowKit.intOf];omega
  ·have hlt' : ¬(k:Int)<(l.length:Int):=by omega
   rw [List.take_of_length_le oe] at hown ⊢
   generalize hse:cfold upto l=s at *
   have Hse:=hid hse
   clear hse
   obtain ⟨u,Y⟩:=s
   dsimp only at hown
   obtain ⟨a3,c3,rfl⟩:=osd hown
   have Hown:=hid hown
   have Hp:=hid hp
   clear hp hown
   go_wp2
   go_ret2
   exact ⟨.slice a3 Y.length c3,by rw [Hse.out];rfl,by rw [Hse.out];exact own_mono Hown.out Hp2.out.size,Hp2.out.then_ Hp.out⟩
end
section
set_option maxHeartbeats 4000000
open Go.RowKit Go.Maps
theorem infoInt' : (Tryz.prog.info? 3).map (fun i=>(i.zero,i.size,i.bytes))=some (some (.int .i64 0),1,8):=by kernel_rfl
theorem wpList_append_ints1 {ops:Array Oper} {rest:List Oper} {o:Oper} {a:Act} {Q:Exit→Act→World→Prop} {w:World} (hgd:o.guard=none) (s x:Operand)
 (ho:o.op=.call { callee:=.builtin .append,args:=#[s,x],argTypes:=#[60,60] }) (base:Nat) (v:Value) (xs:List Int) (n:Nat) (hs:a.eval s=v)
 (hown:w.ownsRow base 3 1 v n (xs.map (Value.int .i64))) (u:Value) (k:List Int) (m:Nat) (hx:a.eval x=u) (hu:Row w u m 1 (k.map (Value.int .i64))) (hlen:n+m≤1000000) (hbase:base≤w.heap.size)
 (h:∀v' w',w'.ownsRow base 3 1 v' (n+m) ((xs++k).map (Value.int .i64))→w.grownBy w' v.ownBlock→wpList Tryz.prog ops Q rest (a.put o.dst v') w'):wpList Tryz.prog ops Q (o::rest) a w:=by
 obtain ⟨i0,hi,hz0,hz1,hz2⟩:=ipt infoInt'
 exact wlar hgd s x _ ho base 3 i0 (.int .i64 0) 1 8 Tryz.underlying60 hi hz0 hz1 hz2 rfl qd qd v n _ hs hown u m _ hx hu (fun u hu=>by simp at hu;obtain ⟨_,_,rfl⟩:=hu;rfl) hlen hbase (fun v' w' q1 q2=>h v' w' (by rw [List.map_append];exact q1) q2)
theorem ints_lit1 (w:World) (x:Int):Row (w.alloc (.cells #[.int .i64 x] 3)) (.slice (some ⟨w.heap.size,0,none⟩) 1 1) 1 1 ([x].map (Value.int .i64)):=by
 refine ⟨rfl,_,_,rfl,Nat.le_refl _,by unfold maxLen;omega,.inr ⟨_,_,rfl,by simp,fun i hi=>?_⟩⟩
 rw [Nat.zero_add,World.cell?_alloc_new]
 simp
def node0 (d:Dot):Dot:=(d.1,0)
def cnodes (B C:List Dot):List Int:=(dsort (B.map node0++C.map node0)).map (·.1)
theorem rnodes_any (vb vc:Value) (B C:List Dot) (w:World) (hB:Dots w vb B) (hC:Dots w vc C) (hl:B.length+C.length≤100000) :
 Calls Tryz.prog 107 #[.agg #[vb,vc]] w fun r w'=>∃v',r=.returned v'∧Ints w' v' (cnodes B C)∧Pure w w'∧∀k,v'.rb=some k→w.heap.size≤k:=by
 obtain ⟨a,cap,rfl⟩:=hB.shape
 obtain ⟨a',cap',rfl⟩:=hC.shape
 obtain ⟨wz,hwz⟩:=qe (w.alloc (.cells #[.slice a B.length cap,.slice a' C.length cap'] 32))
 have Hwz:=qh (Pure w wz) (by rw [hwz];exact qp)
 have HB:=qh (Dots wz (.slice a B.length cap) B) (Row.pure hB Hwz.out)
 have HC:=qh (Dots wz (.slice a' C.length cap') C) (Row.pure hC Hwz.out)
 have hbx:wz.heap[w.heap.size]?=some (.cells #[.slice a B.length cap,.slice a' C.length cap'] 32 (0,0)):=by rw [hwz];exact ban _ _
 have Hbox:Hid (∀W,Pure wz W→W.cell? ⟨w.heap.size,0,none⟩=some (.slice a B.length cap)∧W.cell? ⟨w.heap.size,1,none⟩=some (.slice a' C.length cap')):=fun W hW=>by
  have h:=(hW.block _ (lob hbx)).trans hbx
  exact ⟨cob h 0,cob h 1⟩
 clear hB hC hbx
 go_enter Tryz.func107,Tryz.ntmps107
 go_wp2
 rw [←hwz]
 clear hwz
 go_loopw [3,4] (fun v i wr=>∃k:Nat,k≤B.length∧i=.int .i64 k∧wr.ownsRow wz.heap.size 28 2 v ((B.take k).map node0).length (dvs ((B.take k).map node0))∧Pure wz wr) (fun _ i _=>B.length-(RowKit.intOf i).toNat)
 case atStart=>exact ⟨0,Nat.zero_le _,rfl,World.ownsRow_nil _ _ _ _,Below.refl _ _⟩
 case round =>
  obtain ⟨k,hk,rfl,hown,hp⟩:=hrel
  obtain ⟨q0,q1⟩:=Hbox.out wr hp
  by_cases hlt:k<B.length
  ·obtain ⟨b,off,rfl,hb,c0,c1'⟩:=Dots.get (show Dots wr (.slice a B.length cap) B from Row.pure HB.out hp) hlt
   have hlt' : (k:Int)<(B.length:Int):=by omega
   have Hstep:Hid (((B.take (k+1)).map node0)=((B.take k).map node0)++[((B.getD k (0,0)).1,0)]):=by
    show _=_
    rw [tsd B k hlt];simp [node0]
   have hfl:((B.take k).map node0).length≤200000:=by simp;omega
   generalize ((B.take k).map node0)=Y at *
   obtain ⟨a3,c3,rfl⟩:=osd hown
   have Hown:=hid hown
   have Hp:=hid hp
   clear hown hp
   generalize B.getD k (0,0)=z at *
   obtain ⟨z1,z2⟩:=z
   dsimp only at c0 c1'
   have b4:wz.heap.size≤(wr.alloc (.cells #[.int .i64 z1,.int .i64 0] 28)).heap.size:=by have:=Hp.out.size;simp;omega
   go_wp2_with (at_builtin;refine wlad rfl _ _ rfl wz.heap.size _ Y Y.length rfl (Hown.out.alloc _) _ [(z1,0)] 1 rfl (dots_lit wr z1 0) oe b4 ?_)
   intro v3 w3 hown3 hg3
   have Hown3:=hid hown3
   have hpn:=hid ((Hp.out.alloc Hp.out.size _).grown hg3 (by have:=Hp.out.size;simp;omega) (fun k hk=>(Hown.out.lt k hk).1))
   clear hown3 hg3
   go_wp2
   go_roundw
   case rel=>exact ⟨k+1,by omega,by go_num,by rw [Hstep.out];simpa using Hown3.out,hpn.out⟩
   case measure=>simp [RowKit.intOf];omega
  ·have hlt' : ¬(k:Int)<(B.length:Int):=by omega
   rw [List.take_of_length_le oe] at hown
   obtain ⟨wo,rfl⟩ : ∃wo:World,wo=wr:=⟨_,rfl⟩
   have Hown1:=hid hown
   have Hpa:=hid hp
   obtain ⟨a5,c5,rfl⟩:=osd hown
   clear hown hp
   go_wp2
   go_loopw [3,5] (fun v i wr=>∃k:Nat,k≤C.length∧i=.int .i64 k∧wr.ownsRow wz.heap.size 28 2 v (B.map node0++(C.take k).map node0).length (dvs (B.map node0++(C.take k).map node0))∧Pure wz wr) (fun _ i _=>C.length-(RowKit.intOf i).toNat)
   case atStart=>exact ⟨0,Nat.zero_le _,rfl,by simpa using Hown1.out,Hpa.out⟩
   case round =>
    obtain ⟨k,hk,rfl,hown,hp⟩:=hrel
    obtain ⟨q0,q1⟩:=Hbox.out wr hp
    by_cases hlt:k<C.length
    ·obtain ⟨b,off,rfl,hb,c0,c1'⟩:=Dots.get (show Dots wr (.slice a' C.length cap') C from Row.pure HC.out hp) hlt
     have hlt' : (k:Int)<(C.length:Int):=by omega
     have Hstep:Hid ((B.map node0++(C.take (k+1)).map node0)=(B.map node0++(C.take k).map node0)++[((C.getD k (0,0)).1,0)]):=by
      show _=_
      rw [tsd C k hlt];simp [node0]
     have hfl:(B.map node0++(C.take k).map node0).length≤200000:=by simp;omega
     generalize (B.map node0++(C.take k).map node0)=Y at *
     obtain ⟨a3,c3,rfl⟩:=osd hown
     have Hown:=hid hown
     have Hp:=hid hp
     clear hown hp
     generalize C.getD k (0,0)=z at *
     obtain ⟨z1,z2⟩:=z
     dsimp only at c0 c1'
     have b4:wz.heap.size≤(wr.alloc (.cells #[.int .i64 z1,.int .i64 0] 28)).heap.size:=by have:=Hp.out.size;simp;omega
     go_wp2_with (at_builtin;refine wlad rfl _ _ rfl wz.heap.size _ Y Y.length rfl (Hown.out.alloc _) _ [(z1,0)] 1 rfl (dots_lit wr z1 0) oe b4 ?_)
     intro v3 w3 hown3 hg3
     have Hown3:=hid hown3
     have hpn:=hid ((Hp.out.alloc Hp.out.size _).grown hg3 (by have:=Hp.out.size;simp;omega) (fun k hk=>(Hown.out.lt k hk).1))
     clear hown3 hg3
     go_wp2
     go_roundw
     case rel=>exact ⟨k+1,by omega,by go_num,by rw [Hstep.out];simpa using Hown3.out,hpn.out⟩
     case measure=>simp [RowKit.intOf];omega
    ·have hlt' : ¬(k:Int)<(C.length:Int):=by omega
     rw [List.take_of_length_le oe] at hown
     obtain ⟨wo2,rfl⟩ : ∃wo:World,wo=wr:=⟨_,rfl⟩
     have hs:=hid (rsort_any _ _ wo2 (show Dots wo2 _ _ from Row.of_own hown) qc)
     have hln:(B.map node0++C.map node0).length≤100000:=by simp;omega
     have hln2:=dsort_len (B.map node0++C.map node0)
     obtain ⟨a6,c6,rfl⟩:=osd hown
     have Hpb:=hid hp
     clear hown hp
     have Hcn:=qh (cnodes B C=(dsort (B.map node0++C.map node0)).map (·.1)) (rfl)
     generalize (B.map node0++C.map node0).length=N2 at *
     generalize dsort (B.map node0++C.map node0)=D at *
     go_wp2_with fail
     refine hs.out.mono ?_
     rintro e w4 ⟨v4,rfl,hown4,hp4⟩
     have HD:=hid (Row.of_own hown4)
     obtain ⟨a7,c7,rfl⟩:=osd hown4
     have Hp4:=hid (Hpb.out.then_ hp4)
     clear hown4 hp4 q0 q1
     go_wp2
     go_loopw [6,7] (fun v i wr=>∃k:Nat,k≤D.length∧i=.int .i64 k∧wr.ownsRow w4.heap.size 3 1 v ((D.take k).map (·.1)).length (((D.take k).map (·.1)).map (Value.int .i64))∧Pure w4 wr) (fun _ i _=>D.length-(RowKit.intOf i).toNat)
     case atStart=>exact ⟨0,Nat.zero_le _,rfl,World.ownsRow_nil _ _ _ _,Below.refl _ _⟩
     case round =>
      obtain ⟨k,hk,rfl,hown,hp⟩:=hrel
      by_cases hlt:k<D.length
      ·obtain ⟨b,off,rfl,hb,c0,c1'⟩:=Dots.get (show Dots wr (.slice a7 D.length c7) D from Row.pure HD.out hp) hlt
       have hlt' : (k:Int)<(D.length:Int):=by omega
       have Hstep:Hid ((D.take (k+1)).map (·.1)=(D.take k).map (·.1)++[(D.getD k (0,0)).1]):=by
        show _=_
        rw [tsd D k hlt];simp
       have hfl:((D.take k).map (·.1)).length≤200000:=by simp;omega
       generalize (D.take k).map (·.1)=Y at *
       obtain ⟨a3,c3,rfl⟩:=osd hown
       have Hown:=hid hown
       have Hp:=hid hp
       clear hown hp
       generalize D.getD k (0,0)=z at *
       obtain ⟨z1,z2⟩:=z
       dsimp only at c0 c1'
       have b4:w4.heap.size≤(wr.alloc (.cells #[.int .i64 z1] 3)).heap.size:=by have:=Hp.out.size;simp;omega
       go_wp2_with (at_builtin;refine wpList_append_ints1 rfl _ _ rfl w4.heap.size _ Y Y.length rfl (Hown.out.alloc _) _ [z1] 1 rfl (ints_lit1 wr z1) oe b4 ?_)
       intro v3 w3 hown3 hg3
       have Hown3:=hid hown3
       have hpn:=hid ((Hp.out.alloc Hp.out.size _).grown hg3 (by have:=Hp.out.size;simp;omega) (fun k hk=>(Hown.out.lt k hk).1))
       clear hown3 hg3
       go_wp2
       go_roundw
       case rel=>exact ⟨k+1,by omega,by go_num,by rw [Hstep.out];simpa using Hown3.out,hpn.out⟩
       case measure=>simp [RowKit.intOf];omega
      ·have hlt' : ¬(k:Int)<(D.length:Int):=by omega
       rw [List.take_of_length_le oe] at hown
       obtain ⟨a3,c3,rfl⟩:=osd hown
       have hrb:=hid (fun k hk=>(hown.lt k (rb_own hk)).1)
       have HI:=qh (Ints wr (.slice a3 D.length c3) (D.map (·.1))) (by have h:=Row.of_own hown;rw [List.length_map] at h;unfold Ints;rw [List.length_map];exact h)
       have Hp:=hid hp
       clear hp hown
       go_wp2
       go_ret
       exact ⟨_,rfl,by rw [Hcn.out];exact HI.out,Hwz.out.then_ (Hp4.out.then_ Hp.out),fun k hk=>by have:=Hp4.out.size;have:=Hwz.out.size;have:=hrb.out k (by simpa using hk);omega⟩
end
section
set_option maxHeartbeats 2000000
set_option maxRecDepth 8000
open Go.RowKit Go.Maps
def ctxB (B C:List Dot):List UInt8:=rowB B++rowB C
theorem rowB_len (l:List Dot) (h:∀d ∈ l,Small d) (hl:l.length≤100000):(rowB l).length≤2000010:=by
 have h1:=flatB_len l h
 have h2:=num_len l.length oe
 unfold rowB;rw [List.length_append];omega
theorem rcbytes_any (vb vc:Value) (B C:List Dot) (w:World) (hB:Dots w vb B) (hC:Dots w vc C) (sB:∀d ∈ B,Small d) (sC:∀d ∈ C,Small d) (lB:B.length≤100000) (lC:C.length≤100000) :
 Calls Tryz.prog 130 #[.agg #[vb,vc]] w fun r w'=>r=.returned (.string (bs (ctxB B C)))∧Pure w w':=by
 obtain ⟨a,cap,rfl⟩:=hB.shape
 obtain ⟨a',cap',rfl⟩:=hC.shape
 have hx:=hid (fun W (hW:Pure w W)=>rrow_any _ B W (show Dots W (.slice a B.length cap) B from Row.pure hB hW) sB oe)
 have hy:=hid (fun W (hW:Pure w W)=>rrow_any _ C W (show Dots W (.slice a' C.length cap') C from Row.pure hC hW) sC oe)
 have l1:=rowB_len B sB lB
 have l2:=rowB_len C sC lC
 have hns:¬9223372036854775807<(bs (rowB B)).size+(bs (rowB C)).size:=by rw [bs_size,bs_size];omega
 have happ:=hid (bs_append (rowB B) (rowB C))
 unfold ctxB
 clear hB hC l1 l2 sB sC lB lC
 generalize bs (rowB B)=X at *
 generalize bs (rowB C)=Y at *
 have hst:=qh ((w.alloc (.cells #[.slice a B.length cap,.slice a' C.length cap'] 32)).drew.cell? ⟨w.heap.size,0,none⟩=some (.slice a B.length cap)∧(w.alloc (.cells #[.slice a B.length cap,.slice a' C.length cap'] 32)).drew.cell? ⟨w.heap.size,1,none⟩=some (.slice a' C.length cap')∧Pure w (w.alloc (.cells #[.slice a B.length cap,.slice a' C.length cap'] 32)).drew) (⟨by simp,by simp,qp.drew⟩)
 have hkeep:Hid (∀W W' : World,Pure W W'→(W.cell? ⟨w.heap.size,0,none⟩=some (.slice a B.length cap)∧W.cell? ⟨w.heap.size,1,none⟩=some (.slice a' C.length cap')∧Pure w W)→(W'.cell? ⟨w.heap.size,0,none⟩=some (.slice a B.length cap)∧W'.cell? ⟨w.heap.size,1,none⟩=some (.slice a' C.length cap')∧Pure w W')):=fun W W' hp ⟨a,b,c⟩ =>
  ⟨(hp.cell (World.block_lt_of_cell? W _ a)).trans a,(hp.cell (World.block_lt_of_cell? W _ b)).trans b,c.then_ hp⟩
 have hS:Hid (∀W:World,(W.cell? ⟨w.heap.size,0,none⟩=some (.slice a B.length cap)∧W.cell? ⟨w.heap.size,1,none⟩=some (.slice a' C.length cap')∧Pure w W)→Pure w W):=fun W h=>h.2.2
 go_enter Tryz.func130,Tryz.ntmps130
 go_wp2_with fail
 go_region_held3 (fun W=>W.cell? ⟨w.heap.size,0,none⟩=some (.slice a B.length cap)∧W.cell? ⟨w.heap.size,1,none⟩=some (.slice a' C.length cap')∧Pure w W)
  (first|with_reducible exact hst.out|with_reducible exact hkeep.out _ _ qa qa)
  (first
    | (go_at_call 171;with_reducible refine (hx.out _ (hS.out _ qa)).mono ?_;rintro e w1 ⟨rfl,hp1⟩)
    | (go_at_call 171;with_reducible refine (hy.out _ (hS.out _ qa)).mono ?_;rintro e w1 ⟨rfl,hp1⟩))
 have hx':=qh (w1.cell? ⟨w.heap.size,0,none⟩=some (.slice a B.length cap)∧w1.cell? ⟨w.heap.size,1,none⟩=some (.slice a' C.length cap')∧Pure w w1) (by assumption)
 go_wp2
 go_ret
 exact ⟨congrArg (fun z=>Ending.returned (.string z)) happ.out,hx'.out.2.2⟩
end
section
open Go.RowKit Go.Maps
theorem step_append_own {P:Program} {ops:Array Oper} {o:Oper} {a:Act} {w:World} {K:Act→World→Prop} {Q:Exit→Act→World→Prop} {E:Prop}
 (hg:o.guard=none) (s x:Operand) (t:TypeId) (hop:o.op=Op.call { callee:=Callee.builtin Builtin.append,args:=#[s,x],argTypes:=#[t,t] })
 (base:Nat) (e:TypeId) (i:TypeInfo) (z:Value) (size bytes:Nat) (h1:P.underlying t=some (.slice e)) (h2:P.info? e=some i) (h3:i.zero=some z) (h4:i.size=size) (h5:i.bytes=bytes) (h6:z.cells.size=size) (h7:0<size)
 (v:Value) (n:Nat) (xs:List Value) (hs:a.eval s=v) (hown:w.ownsRow base e size v n xs)
 (ad:Addr) (m c:Nat) (news:List Value) (hx:a.eval x=.slice (some ad) m c) (hn:news.length=m*size) (hc:∀j u,news[j]?=some u→w.cell? (ad.add j)=some u) (h1c:∀u ∈ news,u.oneCell'=true)
 (b1:n+m≤maxLen) (b2:(n+m)*bytes≤140737488355328) (hbase:base≤w.heap.size)
 (hK:∀v' w',w'.ownsRow base e size v' (n+m) (xs++news)→w.grownBy w' v.ownBlock→K (a.put o.dst v') w') :
 if Region.wanted o (yielded ops a.tmps)=true then Oper.wp P o a w K Q else E:=by
 have hw:Region.wanted o (yielded ops a.tmps)=true:=by simp [Region.wanted,hg]
 rw [if_pos hw]
 obtain ⟨v',w',hrun,r1,r2,_⟩:=run_append_own (P:=P) w base t o.type e i z size bytes h1 h2 h3 h4 h5 h6 h7 v n xs hown ad m c news hn hc h1c b1 b2 hbase
 unfold Oper.wp
 simp [execOp,hop,resolve,invoke,builtin,hs,hx,hrun,Result.andThen]
 exact hK v' w' r1 r2
theorem chk_take (l:List Dot) (k:Nat) (h:k<l.length):(l.take (k+1)).filter dchk=(l.take k).filter dchk++if dchk (l.getD k (0,0)) then [l.getD k (0,0)] else []:=by
 rw [tsd l k h,List.filter_append];simp [List.filter_cons]
theorem dots_lit_cells (w:World) (x y:Int):∀j u,(dvs [(x,y)])[j]?=some u→(w.alloc (.cells #[.int .i64 x,.int .i64 y] 28)).cell? ((⟨w.heap.size,0,none⟩ : Addr).add j)=some u:=by
 intro j u hj
 rw [Addr.add_lit,Nat.zero_add,World.cell?_alloc_new]
 simpa [dvs,dcells] using hj
end
end Go.Proofs.YtdlpnhfgjficgaaGreat
