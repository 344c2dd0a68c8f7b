import Derived.WalkMore
import Derived.IntWalk
import Derived.Test.YtdlpnhfgjficgaaGreatJoin
namespace Go.Proofs.YtdlpnhfgjficgaaGreat
section
open Go.RowKit
theorem tkA {P:Program} {md:Region.Mode} {ops:Array Oper} {Q:Exit→Act→World→Prop} {S:World→Prop} {fuel:Nat} {listed:Array Bool} {a:Act} {w:World} (i:Nat) {oi:Oper} {v:Value} {a' : Act} {l' : Array Bool}
 (h:wpAnyH P md ops Q S fuel l' a' w)
 (hi:ops[i]?=some oi:=by rfl) (hs:Region.noSelect ops=true:=by kernel_rfl) (hf:Region.free md ops listed i=true:=by kernel_rfl) (hr:(Region.ready md ops listed).contains i=true:=by kernel_rfl)
 (hw:Region.wanted oi (yielded ops a.tmps)=true:=by rfl)
 (hv:∀w,S w→(execOp a.eval oi).run P w=.ok (.value v) w:=by (intro w hSw;(try dsimp only at hSw);(try simp only [List.getElem_toArray,List.getElem_cons_succ,List.getElem_cons_zero]);go_simp;try with_reducible rfl))
 (ha:a.put oi.dst v=a':=by ((try simp only [Act.put,List.setIfInBounds_toArray,List.set_cons_zero,List.set_cons_succ,List.getElem_toArray,List.getElem_cons_succ,List.getElem_cons_zero]);rfl))
 (hl:listed.setIfInBounds i true=l':=by ((try simp only [List.setIfInBounds_toArray,List.set_cons_zero,List.set_cons_succ]);rfl))
 (hQ:∀c a w,Q (.panic c) (a.put oi.dst v) w→Q (.panic c) a w:=by exact fun _ _ _ h=>h) (hS:S w:=by assumption):wpAnyH P md ops Q S (fuel+1) listed a w:=by
 subst ha hl
 exact wpAnyH_take hi hs hf hr hQ (.inl ⟨hw,hv⟩) hS h
theorem tkU {P:Program} {md:Region.Mode} {ops:Array Oper} {Q:Exit→Act→World→Prop} {S:World→Prop} {fuel:Nat} {listed:Array Bool} {a:Act} {w:World} (i:Nat) {oi:Oper} {a' : Act} {l' : Array Bool}
 (h:wpAnyH P md ops Q S fuel l' a' w)
 (hi:ops[i]?=some oi:=by rfl) (hs:Region.noSelect ops=true:=by kernel_rfl) (hf:Region.free md ops listed i=true:=by kernel_rfl) (hr:(Region.ready md ops listed).contains i=true:=by kernel_rfl)
 (hw:Region.wanted oi (yielded ops a.tmps)=false:=by rfl)
 (ha:a.put oi.dst undef=a':=by ((try simp only [Act.put,List.setIfInBounds_toArray,List.set_cons_zero,List.set_cons_succ,List.getElem_toArray,List.getElem_cons_succ,List.getElem_cons_zero]);rfl))
 (hl:listed.setIfInBounds i true=l':=by ((try simp only [List.setIfInBounds_toArray,List.set_cons_zero,List.set_cons_succ]);rfl))
 (hQ:∀c a w,Q (.panic c) (a.put oi.dst undef) w→Q (.panic c) a w:=by exact fun _ _ _ h=>h) (hS:S w:=by assumption):wpAnyH P md ops Q S (fuel+1) listed a w:=by
 subst ha hl
 exact wpAnyH_take hi hs hf hr hQ (.inr ⟨hw,rfl⟩) hS h
end
section
set_option maxHeartbeats 4000000
set_option maxRecDepth 8000
open Go.RowKit Go.Maps
theorem radd_any (va vb v:Value) (aB aC l:List Dot) (w:World) (h1:Dots w va aB) (h2:Dots w vb aC) (hr:Dots w v l) (hl:aB.length+aC.length+l.length≤1000) (hb1:∀d ∈ aB,0≤d.2∧d.2≤1152921504606846976) :
 Calls Tryz.prog 104 #[.agg #[va,vb],v] w fun r w'=>∃v0 v1,r=.returned (.agg #[v0,v1])∧Dots w' v0 (cjoin aB aC [] (dsort (l.filter dchk))).1∧Dots w' v1 (cjoin aB aC [] (dsort (l.filter dchk))).2∧Pure w w'∧(∀k,v0.rb=some k→w.heap.size≤k)∧(∀k,v1.rb=some k→w.heap.size≤k):=by
 have lt1:=Row.lt h1
 have lt2:=Row.lt h2
 have Hb1:=hid hb1
 obtain ⟨a,cap,rfl⟩:=hr.shape
 obtain ⟨aa,ca,rfl⟩:=h1.shape
 obtain ⟨ab,cb,rfl⟩:=h2.shape
 obtain ⟨i0,hi,hz0,hz1,hz2⟩:=ipt infoDot
 obtain ⟨wz,hwz⟩:=qe (((w.alloc (.cells #[.slice aa aB.length ca,.slice ab aC.length cb] 32)).alloc (.cells #[.slice none 0 0,.slice none 0 0] 32)).alloc (.cells #[.slice none 0 0,.slice none 0 0] 32))
 have Hwz:=qh (Pure w wz) (by rw [hwz];exact (qp.alloc qb _).alloc qc _)
 have hszz:wz.heap.size=w.heap.size+3:=by rw [hwz];simp
 have hmore:wz.heap[w.heap.size+2]?=some (.cells #[.slice none 0 0,.slice none 0 0] 32 (0,0)):=by
  rw [hwz]
  have:=ban ((w.alloc (.cells #[.slice aa aB.length ca,.slice ab aC.length cb] 32)).alloc (.cells #[.slice none 0 0,.slice none 0 0] 32)) (.cells #[.slice none 0 0,.slice none 0 0] 32)
  simpa using this
 have Hl:=qh (Dots wz (.slice a l.length cap) l) (Row.pure hr Hwz.out)
 have hlt0:=hid (Row.lt hr)
 have HA:=qh (Dots wz (.slice aa aB.length ca) aB) (Row.pure h1 Hwz.out)
 have HB:=qh (Dots wz (.slice ab aC.length cb) aC) (Row.pure h2 Hwz.out)
 have Hlt1:=hid lt1
 have Hlt2:=hid lt2
 have hbox:Hid (wz.heap[w.heap.size]?=some (.cells #[.slice aa aB.length ca,.slice ab aC.length cb] 32 (0,0))∧wz.heap[w.heap.size+1]?=some (.cells #[.slice none 0 0,.slice none 0 0] 32 (0,0))):=by
  show wz.heap[w.heap.size]?=_∧wz.heap[w.heap.size+1]?=_
  rw [hwz]
  refine ⟨bao (bao (ban _ _) _) _,?_⟩
  have:=ban (w.alloc (.cells #[.slice aa aB.length ca,.slice ab aC.length cb] 32)) (.cells #[.slice none 0 0,.slice none 0 0] 32)
  rw [World.size_alloc] at this
  exact bao this _
 clear hr h1 h2 lt1 lt2 hb1
 have hchk:=hid (fun d W=>rchk_any d W)
 go_enter Tryz.func104,Tryz.ntmps104
 go_wp2
 rw [←hwz]
 clear hwz
 go_loopw [6] (fun i wr=>∃(k:Nat) (voc:Value),k≤l.length∧i=.int .i64 k∧wr.heap[w.heap.size+2]?=some (.cells #[.slice none 0 0,voc] 32 (0,0))∧wr.ownsRow (w.heap.size+3) 28 2 voc ((l.take k).filter dchk).length (dvs ((l.take k).filter dchk))∧Kept (fun k=>k=w.heap.size+2) wz wr) (fun i _=>l.length-(RowKit.intOf i).toNat)
 case atStart=>exact ⟨0,.slice none 0 0,Nat.zero_le _,rfl,hmore,World.ownsRow_nil _ _ _ _,Kept.refl _ _⟩
 case round =>
  obtain ⟨k,voc,hk,rfl,hm,hown,hp⟩:=hrel
  by_cases hlt:k<l.length
  ·obtain ⟨b,off,rfl,hb,c0,c1⟩:=Dots.get (show Dots wr (.slice a l.length cap) l from Row.kept Hl.out hp (fun k hk e=>by have:=hlt0.out k hk;omega)) hlt
   have hlt' : (k:Int)<(l.length:Int):=by omega
   have Hstep:=hid (chk_take l k hlt)
   have hfl:((l.take k).filter dchk).length≤1000:=Nat.le_trans (List.length_filter_le _ _) (by rw [List.length_take];omega)
   generalize (l.take k).filter dchk=Y at *
   obtain ⟨a3,c3,rfl⟩:=osd hown
   have hc:=hid (hchk.out (l.getD k (0,0)) wr)
   generalize l.getD k (0,0)=z at *
   obtain ⟨z1,z2⟩:=z
   dsimp only at c0 c1
   unfold dv at hc
   dsimp only at hc
   cases hz:dchk (z1,z2) with
   | true =>
     rw [hz] at hc
     have Hz:=hid hz
     clear hz
     go_wp2_with (go_at_call 105;refine hc.out.mono ?_;rintro e w2 ⟨rfl,hp2⟩;have Hp2:=hid hp2)
     have m2:w2.heap[w.heap.size+2]?=some (.cells #[.slice none 0 0,.slice a3 Y.length c3] 32 (0,0)):=(hp2.block _ (lob hm)).trans hm
     have e1:w2.cell? ⟨w.heap.size+2,1,none⟩=some (.slice a3 Y.length c3):=cob m2 1
     have e2:w2.frozen? ⟨w.heap.size+2,1,none⟩=false:=fob m2 1
     have d0:w2.cell? ⟨b,off+k*2,none⟩=some (.int .i64 z1):=(hp2.cell hb).trans c0
     have d1:w2.cell? ⟨b,off+k*2+1,none⟩=some (.int .i64 z2):=(hp2.cell hb).trans c1
     have hb2:b<w2.heap.size:=Nat.lt_of_lt_of_le hb hp2.size
     have hm2:w.heap.size+2<w2.heap.size:=lob m2
     have Hown:=hid (own_pure hown hp2)
     have Hm:=hid m2
     clear hp2 c0 c1 hown hm m2
     have Hp:=hid hp
     have hmk:Hid (∀w' : World,(w2.drew.alloc (.cells #[.int .i64 z1,.int .i64 z2] 28)).grownBy w' (Value.slice a3 Y.length c3).ownBlock→w'.heap[w.heap.size+1+1]?=some (.cells #[.slice none 0 0,.slice a3 Y.length c3] 32 (0,0))∧Kept (fun k=>k=w.heap.size+2) wz w'):=fun w' hg=>by
      have h1:=hg.block (w.heap.size+2) qc (fun e=>own_ne Hown.out (show w.heap.size+2<w.heap.size+3 by omega) e.symm)
      refine ⟨h1.trans (bao Hm.out _),?_⟩
      exact (((Hp.out.trans Hp2.out.kept).drew).alloc _).grown hg (fun k hk hlt=>by have:=(Hown.out.lt k hk).1;omega)
     clear hp
     go_wp2_with fail
     go_region_law (refine step_append_own rfl (.tmp 21) (.tmp 26) 30 rfl (w.heap.size+3) 28 i0 (.agg #[.int .i64 0,.int .i64 0]) 2 16 Tryz.underlying30 hi hz0 hz1 hz2 rfl qd (.slice a3 Y.length c3) Y.length (dvs Y) (by simp [Act.eval]) (World.ownsRow.alloc Hown.out _) ⟨w2.heap.size,0,none⟩ 1 1 (dvs [(z1,z2)]) (by simp [Act.eval]) rfl (dots_lit_cells _ z1 z2) (dvs_one _) (by unfold maxLen;omega) oe qc ?_;intro v' w' hown' hg';obtain ⟨a9,c9,rfl⟩:=osd hown';obtain ⟨hm9,hp9⟩:=hmk.out w' hg';have s1:w'.cell? ⟨w.heap.size+1+1,1,none⟩=some (.slice a3 Y.length c3):=cob hm9 1;have s2:w'.frozen? ⟨w.heap.size+1+1,1,none⟩=false:=fob hm9 1;have Hm9:=hid hm9;have Hp9:=hid hp9;have Hown9:=hid hown';clear hown' hg' hm9 hp9)
     all_goals
      go_wp2
      go_roundw
      (case rel =>
        refine ⟨k+1,.slice a9 (Y.length+1) c9,by omega,by go_num,?_,?_,?_⟩
        ·have:=bsc Hm9.out 1 (.slice a9 (Y.length+1) c9);simpa using this
        ·rw [Hstep.out,Hz.out]
         have h:=ownsRow_setCell_below Hown9.out (a:=⟨w.heap.size+1+1,1,none⟩) (by show w.heap.size+1+1<w.heap.size+3;omega) (.slice a9 (Y.length+1) c9)
         rw [←dvs_append] at h
         simpa using h
        ·exact Hp9.out.setCell (fun _=>by show w.heap.size+1+1=w.heap.size+2;omega) _)
      (case measure=>simp [RowKit.intOf];omega)
   | false =>
     rw [hz] at hc
     have Hz:=hid hz
     have Hown:=hid hown
     have Hm:=hid hm
     have Hp:=hid hp
     clear hz hown hm hp
     go_wp2_with (go_at_call 105;refine hc.out.mono ?_;rintro e w2 ⟨rfl,hp2⟩;have Hp2:=hid hp2;clear hp2)
     go_roundw
     case rel=>exact ⟨k+1,.slice a3 Y.length c3,by omega,by go_num,(Hp2.out.block _ (lob Hm.out)).trans Hm.out,by rw [Hstep.out,Hz.out];simpa using own_pure Hown.out Hp2.out,Hp.out.trans Hp2.out.kept⟩
     case measure=>simp [RowKit.intOf];omega
  ·have hlt' : ¬(k:Int)<(l.length:Int):=by omega
   rw [List.take_of_length_le oe] at hown
   have hDl:(l.filter dchk).length≤l.length:=List.length_filter_le _ _
   generalize hDe:l.filter dchk=D at *
   have HDe:=hid hDe
   clear hDe
   have hs:=hid (rsort_any _ D wr (Row.of_own hown) oe)
   have hdl:=dsort_len D
   obtain ⟨a3,c3,rfl⟩:=osd hown
   have m0:wr.cell? ⟨w.heap.size+1+1,1,none⟩=some (.slice a3 D.length c3):=cob hm 1
   have Hm:=hid hm
   have Hp:=hid hp
   clear hown hm hp
   go_wp2_with fail
   refine hs.out.mono ?_
   rintro e w2 ⟨v2,rfl,hown2,hp2⟩
   have hm2:w2.heap[w.heap.size+2]?=some (.cells #[.slice none 0 0,.slice a3 D.length c3] 32 (0,0)):=(hp2.block _ (lob Hm.out)).trans Hm.out
   have m1:w2.cell? ⟨w.heap.size+1+1,1,none⟩=some (.slice a3 D.length c3):=cob hm2 1
   have m2:w2.frozen? ⟨w.heap.size+1+1,1,none⟩=false:=fob hm2 1
   have m3:w2.cell? ⟨w.heap.size+1+1,0,none⟩=some (.slice none 0 0):=cob hm2 0
   have hk2:Kept (fun k=>k=w.heap.size+2) wz w2:=Hp.out.trans hp2.kept
   have hb0:w2.heap[w.heap.size]?=some (.cells #[.slice aa aB.length ca,.slice ab aC.length cb] 32 (0,0)):=(hk2.block _ oe oe).trans hbox.out.1
   have n0:w2.cell? ⟨w.heap.size,0,none⟩=some (.slice aa aB.length ca):=cob hb0 0
   have n1:w2.cell? ⟨w.heap.size,1,none⟩=some (.slice ab aC.length cb):=cob hb0 1
   obtain ⟨p2,k2,rfl⟩:=osd hown2
   obtain ⟨w3,hw3⟩:=qe (w2.setCell ⟨w.heap.size+1+1,1,none⟩ (.slice p2 (dsort D).length k2))
   have hsr:w.heap.size+3≤wr.heap.size:=by have:=Hp.out.size;omega
   have hk3:Kept (fun k=>k=w.heap.size+2) wz w3:=by rw [hw3];exact hk2.setCell (fun _=>by show w.heap.size+1+1=w.heap.size+2;omega) _
   have d3:Dots w3 (.slice p2 (dsort D).length k2) (dsort D):=by rw [hw3];exact Row.of_own (own_setCell hown2 _ (by show w.heap.size+1+1<wr.heap.size;omega) _)
   have hj:=hid (rjoin_any _ _ (.slice none 0 0) _ aB aC [] (dsort D) w3 (show Dots w3 (.slice aa aB.length ca) aB from Row.kept HA.out hk3 (fun k hk e=>by have:=Hlt1.out k hk;omega)) (show Dots w3 (.slice ab aC.length cb) aC from Row.kept HB.out hk3 (fun k hk e=>by have:=Hlt2.out k hk;omega)) (Row.nil w3 2) d3 qc Hb1.out qb)
   have hres3:Hid (w3.heap[w.heap.size+1]?=some (.cells #[.slice none 0 0,.slice none 0 0] 32 (0,0))):=(hk3.block _ oe oe).trans hbox.out.2
   have Hk3:=hid hk3
   clear hown2 hp2 hm2 hk2 hb0 hk3 d3 m0
   go_wp2_with fail
   rw [←hw3]
   clear hw3
   refine hj.out.mono ?_
   rintro e w4 ⟨v0,v1,rfl,hd0,hd1,hp4,hf0,hf1⟩
   have hres:=(hp4.block _ (lob hres3.out)).trans hres3.out
   have r0:w4.cell? ⟨w.heap.size+1,0,none⟩=some (.slice none 0 0):=cob hres 0
   have r1:w4.cell? ⟨w.heap.size+1,1,none⟩=some (.slice none 0 0):=cob hres 1
   have r2:w4.frozen? ⟨w.heap.size+1,0,none⟩=false:=fob hres 0
   have r3:w4.frozen? ⟨w.heap.size+1,1,none⟩=false:=fob hres 1
   obtain ⟨p0,k0,rfl⟩:=hd0.shape
   obtain ⟨p1,k1,rfl⟩:=hd1.shape
   generalize hCe:cjoin aB aC [] (dsort D)=C at *
   have HCe:=hid hCe
   clear hCe
   have t0:(w4.setCell ⟨w.heap.size+1,0,none⟩ (.slice p0 C.1.length k0)).cell? ⟨w.heap.size+1,0,none⟩=some (.slice p0 C.1.length k0):=by
    rw [cob (bsc hres 0 (.slice p0 C.1.length k0)) 0];simp
   have t1:((w4.setCell ⟨w.heap.size+1,0,none⟩ (.slice p0 C.1.length k0)).setCell ⟨w.heap.size+1,1,none⟩ (.slice p1 C.2.length k1)).cell? ⟨w.heap.size+1,1,none⟩=some (.slice p1 C.2.length k1):=by
    rw [cob (bsc (bsc hres 0 (.slice p0 C.1.length k0)) 1 (.slice p1 C.2.length k1)) 1];simp
   have T0:=hid t0
   have T1:=hid t1
   have hkf:Kept (fun k=>k=w.heap.size+1) w4 ((w4.setCell ⟨w.heap.size+1,0,none⟩ (.slice p0 C.1.length k0)).setCell ⟨w.heap.size+1,1,none⟩ (.slice p1 C.2.length k1)):=(kept_set w4 _ 0 _).trans (kept_set _ _ 1 _)
   have hs3:w.heap.size+3≤w3.heap.size:=by have:=Hk3.out.size;omega
   have hfin:Hid (Dots ((w4.setCell ⟨w.heap.size+1,0,none⟩ (.slice p0 C.1.length k0)).setCell ⟨w.heap.size+1,1,none⟩ (.slice p1 C.2.length k1)) (.slice p0 C.1.length k0) C.1∧Dots ((w4.setCell ⟨w.heap.size+1,0,none⟩ (.slice p0 C.1.length k0)).setCell ⟨w.heap.size+1,1,none⟩ (.slice p1 C.2.length k1)) (.slice p1 C.2.length k1) C.2∧Pure w ((w4.setCell ⟨w.heap.size+1,0,none⟩ (.slice p0 C.1.length k0)).setCell ⟨w.heap.size+1,1,none⟩ (.slice p1 C.2.length k1))∧(∀k,(Value.slice p0 C.1.length k0).rb=some k→w.heap.size≤k)∧(∀k,(Value.slice p1 C.2.length k1).rb=some k→w.heap.size≤k)):=by
    refine ⟨Row.kept hd0 hkf (fun k hk e=>by have:=hf0 k hk;omega),Row.kept hd1 hkf (fun k hk e=>by have:=hf1 k hk;omega),?_,fun k hk=>by have:=hf0 k hk;omega,fun k hk=>by have:=hf1 k hk;omega⟩
    have q1:Kept (fun k=>w.heap.size≤k) wz w4:=(Hk3.out.mono (fun k _ e=>by omega)).trans hp4.kept
    have q2:Kept (fun k=>w.heap.size≤k) wz ((w4.setCell ⟨w.heap.size+1,0,none⟩ (.slice p0 C.1.length k0)).setCell ⟨w.heap.size+1,1,none⟩ (.slice p1 C.2.length k1)):=q1.trans (hkf.mono (fun k _ e=>by omega))
    exact Below.trans Hwz.out (q2.below Hwz.out.size (fun k hk e=>by omega))
   clear hd0 hd1 hp4 hf0 hf1 hres t0 t1 hkf
   go_wp2
   refine bodyPost_ret (v:=.agg #[.slice p0 C.1.length k0,.slice p1 C.2.length k1]) (by simp [results,Tryz.results104,go_sem,T0.out,T1.out]) rfl ⟨_,_,rfl,by rw [HDe.out,HCe.out];exact hfin.out⟩
end
section
set_option maxHeartbeats 2000000
set_option maxRecDepth 8000
open Go.RowKit Go.Maps
def chas (B C:List Dot) (d:Dot):Bool:=dchk d && (decide (d.2≤cbase B d.1) || decide (d ∈ C))
theorem rchas_any (vb vc:Value) (B C:List Dot) (d:Dot) (w:World) (h1:Dots w vb B) (h2:Dots w vc C) :
 Calls Tryz.prog 102 #[.agg #[vb,vc],dv d] w fun e w'=>e=.returned (.bool (chas B C d))∧Pure w w':=by
 obtain ⟨x,y⟩:=d
 obtain ⟨a0,c0,rfl⟩:=h1.shape
 obtain ⟨a1,c1,rfl⟩:=h2.shape
 obtain ⟨wz,hwz⟩:=qe ((w.alloc (.cells #[.slice a0 B.length c0,.slice a1 C.length c1] 32)).alloc (.cells #[.int .i64 x,.int .i64 y] 28))
 have Hwz:=qh (Pure w wz) (by rw [hwz];exact qp.alloc qb _)
 have b0:wz.heap[w.heap.size]?=some (.cells #[.slice a0 B.length c0,.slice a1 C.length c1] 32 (0,0)):=by rw [hwz];exact bao (ban _ _) _
 have b1:wz.heap[w.heap.size+1]?=some (.cells #[.int .i64 x,.int .i64 y] 28 (0,0)):=by
  rw [hwz];have:=ban (w.alloc (.cells #[.slice a0 B.length c0,.slice a1 C.length c1] 32)) (.cells #[.int .i64 x,.int .i64 y] 28)
  simpa using this
 have hp:=hid (fun W (hW:Pure wz W)=>Hwz.out.then_ hW)
 have hS:Hid (∀W,Pure wz W→(W.cell? ⟨w.heap.size,0,none⟩=some (.slice a0 B.length c0)∧W.cell? ⟨w.heap.size,1,none⟩=some (.slice a1 C.length c1)∧W.cell? ⟨w.heap.size+1,0,none⟩=some (.int .i64 x)∧W.cell? ⟨w.heap.size+1,1,none⟩=some (.int .i64 y)∧Pure wz W)):=fun W hW=>by
  have e0:=(hW.block _ (lob b0)).trans b0
  have e1:=(hW.block _ (lob b1)).trans b1
  exact ⟨cob e0 0,cob e0 1,cob e1 0,cob e1 1,hW⟩
 have hS2:Hid (∀W:World,(W.cell? ⟨w.heap.size,0,none⟩=some (.slice a0 B.length c0)∧W.cell? ⟨w.heap.size,1,none⟩=some (.slice a1 C.length c1)∧W.cell? ⟨w.heap.size+1,0,none⟩=some (.int .i64 x)∧W.cell? ⟨w.heap.size+1,1,none⟩=some (.int .i64 y)∧Pure wz W)→Pure wz W):=fun W h=>h.2.2.2.2
 have hc:=hid (fun W=>rchk_any (x,y) W)
 have hh:=hid (fun W (hW:Pure wz W)=>rdhas_any (.slice a1 C.length c1) C (x,y) W (Row.pure h2 (hp.out W hW)))
 have hb:=hid (fun W (hW:Pure wz W)=>rbase_any (.slice a0 B.length c0) (.slice a1 C.length c1) B x W (Row.pure h1 (hp.out W hW)))
 unfold chas
 unfold dv at *
 dsimp only at hc hh ⊢
 clear h1 h2 b0 b1
 generalize dchk (x,y)=I at *
 generalize decide ((x,y) ∈ C)=M at *
 generalize cbase B x=n at *
 go_enter Tryz.func102,Tryz.ntmps102
 go_wp2_with fail
 rw [←hwz]
 clear hwz
 refine (hc.out wz).mono ?_
 rintro e w1 ⟨rfl,hp1⟩
 obtain ⟨f0,f1,f2,f3,_⟩:=hS.out w1 hp1
 have Hp1:=hid hp1
 clear hp1
 go_wp2_with fail
 refine (hh.out w1 Hp1.out).mono ?_
 rintro e w2 ⟨rfl,hp2⟩
 have Hp2:=hid (Hp1.out.then_ hp2)
 clear f0 f1 f2 f3 hp2
 obtain ⟨f0,f1,f2,f3,_⟩:=hS.out w2 Hp2.out
 cases I with
 | false =>
   go_wp2_with fail
   go_quiet (fail)
   go_wp2
   go_ret
   exact ⟨rfl,hp.out _ (Hp2.out.then_ (pdN _ _))⟩
 | true =>
   have hst:=hid (hS.out w2.drew (Hp2.out.then_ qv))
   clear f0 f1 f2 f3
   by_cases hle:y≤n
   ·have hle' : decide (y≤n)=true:=by simpa using hle
    have Hle:=hid hle'
    go_wp2_with fail
    have Hd:=hid (Hp2.out.then_ qv)
    obtain ⟨f0,f1,f2,f3,_⟩:=hS.out w2 Hp2.out
    clear hst
    first
    | go_region_with (first|(go_at_call 108;with_reducible refine (hb.out _ Hd.out).mono ?_;rintro e w7 ⟨rfl,hp7⟩;obtain ⟨g0,g1,g2,g3,hx7⟩:=hS.out w7 (Hd.out.then_ hp7);have Hx7:=hid hx7;clear hp7 hx7))
    | fail
    all_goals
     have hx:=hid (hp.out w7 Hx7.out)
     go_wp2
     go_ret
     exact ⟨ret_bool (by rw [Hle.out];simp),hx.out⟩
   ·have hle' : decide (y≤n)=false:=by simp;omega
    go_wp2_with fail
    go_region_held3 (fun W=>W.cell? ⟨w.heap.size,0,none⟩=some (.slice a0 B.length c0)∧W.cell? ⟨w.heap.size,1,none⟩=some (.slice a1 C.length c1)∧W.cell? ⟨w.heap.size+1,0,none⟩=some (.int .i64 x)∧W.cell? ⟨w.heap.size+1,1,none⟩=some (.int .i64 y)∧Pure wz W)
     (first|with_reducible exact hst.out|with_reducible exact hS.out _ (Pure.then_ (hS2.out _ qa) qa))
     (first|(go_at_call 108;with_reducible refine (hb.out _ (hS2.out _ qa)).mono ?_;rintro e w7 ⟨rfl,hp7⟩))
    have hx:=hid (hp.out w7 (hS2.out _ qa))
    clear hp7 hst
    go_wp2
    go_ret
    exact ⟨ret_bool (by rw [hle'];simp),hx.out⟩
end
section
open Go.RowKit Go.Maps
def vlen:Value→Nat
 | .slice _ n _=>n
 | _=>0
theorem slice_suf_off {P:Program} {t e:TypeId} {size:Nat} (ht:P.underlying t=some (.slice e)) {w:World} {a:Option Addr} {n cap:Nat} {xs:List Value} (h:Row w (.slice a n cap) n size xs) {k:Nat} (hk:k≤n) (hp:a=none∨∃b o,a=some ⟨b,o,none⟩) (hsz:∀W,(sizeOf e).run P W=.ok size W) :
 ∃v1,(∀W,(Instr.slice t (.slice a n cap) (some (.int .i64 k)) none none).run P W=.ok v1 W)∧(∀W,Row W (.slice a n cap) n size xs→Row W v1 (n-k) size (xs.drop (k*size)))∧∀j,v1.rb=some j→(Value.slice a n cap).rb=some j:=by
 have hr:=h
 obtain ⟨hl,a',cap',e',h1,h2,hc⟩:=h
 cases e'
 have hte:P.elem t=e:=by simp [Program.elem,ht]
 have ht' : P.underlying t=some (.slice (P.elem t)):=by rw [hte];exact ht
 rcases hp with rfl|⟨b,o,rfl⟩
 ·rcases hc with rfl|⟨_,_,e,_⟩
  ·obtain rfl:n=0:=by omega
   obtain rfl:k=0:=by omega
   obtain rfl:xs=[]:=List.eq_nil_of_length_eq_zero (by simpa using hl)
   refine ⟨.slice none 0 0,fun W=>?_,fun W _=>⟨by simp,none,0,rfl,by omega,by simp,.inl rfl⟩,fun j hj=>by simp [Value.rb] at hj⟩
   refine Eq.trans (run_slice_l (P:=P) (w:=W) t none 0 0 ht' .i64 (0:Int) oe oe) ?_
   rw [hte,hsz]
   simp [sliced,go_sem]
  ·cases e
 ·by_cases hz:cap=k
  ·obtain rfl:cap=n:=by omega
   subst hz
   refine ⟨.slice (some ⟨b,o,none⟩) 0 0,fun W=>?_,fun W _=>⟨by simp;omega,some ⟨b,o,none⟩,0,by simp,by omega,by simp,.inl rfl⟩,fun j hj=>by simp [Value.rb] at hj⟩
   rw [run_slice_l (P:=P) (w:=W) t (some ⟨b,o,none⟩) cap cap ht' .i64 (cap:Int) oe oe,hte,hsz]
   simp [sliced,go_sem]
  ·refine ⟨.slice (some ⟨b,o+k*size,none⟩) (n-k) (cap-k),fun W=>?_,fun W hW=>row_suf hW hk,fun j hj=>by
    simp only [Value.rb] at hj ⊢
    by_cases h0:cap=0
    ·omega
    ·have hck:cap-k≠0:=by omega
     rw [if_neg hck] at hj
     rw [if_neg h0];exact hj⟩
   rw [run_slice_l (P:=P) (w:=W) t (some ⟨b,o,none⟩) n cap ht' .i64 (k:Int) oe oe,hte,hsz]
   simp [sliced,go_sem,hz,Addr.add]
end
end Go.Proofs.YtdlpnhfgjficgaaGreat
