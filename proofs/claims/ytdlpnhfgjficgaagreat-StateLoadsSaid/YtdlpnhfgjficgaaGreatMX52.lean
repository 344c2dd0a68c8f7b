import Derived.Test.YtdlpnhfgjficgaaGreatMX28
namespace Go.Proofs.YtdlpnhfgjficgaaGreat
section
set_option maxHeartbeats 8000000
set_option maxRecDepth 8000
open Go.RowKit Go.Maps Go.Shelf Go.Sort
def jone (K:List Msg) (c:Dot→Bool) (m:Msg):List Msg:=match lget K m.1 with
 | some o=>[bothM m o]
 | none=>if c m.1 then [] else [m]
theorem jone_len (K:List Msg) (c:Dot→Bool) (m:Msg):(jone K c m).length≤1:=by
 unfold jone;split
 ·simp
 ·split <;> simp
theorem jl1_take (l K:List Msg) (c:Dot→Bool) (k:Nat) (h:k<l.length):jl1 (l.take (k+1)) K c=jl1 (l.take k) K c++jone K c (l.getD k m0):=by
 have e:∀x,jl1 x K c=x.flatMap (jone K c):=fun _=>rfl
 rw [e,e,take_succ_m l k h,List.flatMap_append];simp
theorem jl1_len (K:List Msg) (c:Dot→Bool):∀l,(jl1 l K c).length≤l.length
 | []=>by simp [jl1]
 | a::l=>by
   have e:jl1 (a::l) K c=jone K c a++jl1 l K c:=rfl
   have:=jl1_len K c l
   have:=jone_len K c a
   rw [e,List.length_append,List.length_cons];omega
structure MX (n:Nat) (m:Msg) (W:World):Prop where
 b:W.heap[n]?=some (.cells #[.int .i64 m.1.1,.int .i64 m.1.2,.string (bs m.2.1),.string (bs m.2.2.1),.int .i64 m.2.2.2] 43 (0,0))
theorem MX.pure {n:Nat} {m:Msg} {W W' : World} (h:MX n m W) (hp:Pure W W'):MX n m W':=⟨(hp.block _ (lob h.b)).trans h.b⟩
theorem MX.made (w:World) (m:Msg):MX w.heap.size m (w.alloc (.cells #[.int .i64 m.1.1,.int .i64 m.1.2,.string (bs m.2.1),.string (bs m.2.2.1),.int .i64 m.2.2.2] 43)):=⟨ban _ _⟩
theorem MX.cells {n:Nat} {x y:Int} {q b:List UInt8} {c:Int} {W:World} (h:MX n ((x,y),q,b,c) W):W.cell? ⟨n,0,none⟩=some (.int .i64 x)∧W.cell? ⟨n,1,none⟩=some (.int .i64 y)∧W.cell? ⟨n,2,none⟩=some (.string (bs q))∧W.cell? ⟨n,3,none⟩=some (.string (bs b))∧W.cell? ⟨n,4,none⟩=some (.int .i64 c) :=
 ⟨cob h.b 0,cob h.b 1,cob h.b 2,cob h.b 3,cob h.b 4⟩
theorem rjoin5_any (v0 v1 v2 u0 u1 u2:Value) (g h:Bag) (w:World) (hr:BR3 v0 v1 v2 g w) (hs:BR3 u0 u1 u2 h w) (hg:BV g) (hh:BV h) (hll:g.1.length+h.1.length≤3000) (hlc:g.2.1.length+g.2.2.length+(h.2.1.length+h.2.2.length)≤3000) :
 Calls Tryz.prog 54 #[.agg #[v0,v1,v2],.agg #[u0,u1,u2]] w (BagO w (bjoin g h)):=by
 have hxg:Sml 3000 g.2:=⟨hg.ok,by omega,by omega⟩
 have hxh:Sml 3000 h.2:=⟨hh.ok,by omega,by omega⟩
 have hbj:=qh (bjoin g h=(msort (jl1 g.1 h.1 (chas h.2.1 h.2.2)++jl2 h.1 (chas g.2.1 g.2.2)),Jn g.2 h.2)) (rfl)
 obtain ⟨a0,c0,e0⟩:=hr.1.shape
 obtain ⟨b0,k0,f0⟩:=hs.1.shape
 subst e0
 subst f0
 obtain ⟨wz,hwz⟩:=qe (((w.alloc (.cells #[.slice a0 g.1.length c0,v1,v2] 34)).alloc (.cells #[.slice b0 h.1.length k0,u1,u2] 34)).alloc (.cells #[.slice none 0 0,.slice none 0 0,.slice none 0 0] 34))
 have Hpz:=qh (Pure w wz) (by rw [hwz];exact (qp.alloc qb _).alloc qc _)
 have hsz:wz.heap.size=w.heap.size+3:=by rw [hwz];simp
 have n1:=ban (w.alloc (.cells #[.slice a0 g.1.length c0,v1,v2] 34)) (.cells #[.slice b0 h.1.length k0,u1,u2] 34)
 have n2:=ban ((w.alloc (.cells #[.slice a0 g.1.length c0,v1,v2] 34)).alloc (.cells #[.slice b0 h.1.length k0,u1,u2] 34)) (.cells #[.slice none 0 0,.slice none 0 0,.slice none 0 0] 34)
 simp only [World.size_alloc] at n1 n2
 have hbk:Hid (wz.heap[w.heap.size]?=some (.cells #[.slice a0 g.1.length c0,v1,v2] 34 (0,0))∧wz.heap[w.heap.size+1]?=some (.cells #[.slice b0 h.1.length k0,u1,u2] 34 (0,0))∧RsB (w.heap.size+1+1) wz):=by
  show _∧_∧wz.heap[w.heap.size+1+1]?=_
  rw [hwz]
  exact ⟨bao (bao (ban _ _) _) _,bao n1 _,n2⟩
 clear n1 n2
 have HF:Hid (∀W,Kept (fun k=>k=w.heap.size+1+1) wz W→(W.cell? ⟨w.heap.size,0,none⟩=some (.slice a0 g.1.length c0)∧W.cell? ⟨w.heap.size,1,none⟩=some v1∧W.cell? ⟨w.heap.size,2,none⟩=some v2∧W.cell? ⟨w.heap.size+1,0,none⟩=some (.slice b0 h.1.length k0)∧W.cell? ⟨w.heap.size+1,1,none⟩=some u1∧W.cell? ⟨w.heap.size+1,2,none⟩=some u2∧Kept (fun k=>k=w.heap.size+1+1) wz W)):=fun W hW=>by
  have e0:=(hW.block _ (lob hbk.out.1) oe).trans hbk.out.1
  have e1:=(hW.block _ (lob hbk.out.2.1) oe).trans hbk.out.2.1
  exact ⟨cob e0 0,cob e0 1,cob e0 2,cob e1 0,cob e1 1,cob e1 2,hW⟩
 have HL:=hid (fun W (hW:Pure wz W)=>(show Msgs W _ g.1 from Row.pure hr.1 (Hpz.out.then_ hW)))
 have HK:=hid (fun W (hW:Pure wz W)=>(show Msgs W _ h.1 from Row.pure hs.1 (Hpz.out.then_ hW)))
 have Hget:=hid (fun W (hW:Pure wz W) d=>rget_any _ _ _ h d W (hs.pure (Hpz.out.then_ hW)))
 have Hhas1:=hid (fun W (hW:Pure wz W) d=>(show Calls _ _ _ _ _ from rchas_any u1 u2 h.2.1 h.2.2 d W (Row.pure hs.2.1 (Hpz.out.then_ hW)) (Row.pure hs.2.2 (Hpz.out.then_ hW))))
 have Hhas0:=hid (fun W (hW:Pure wz W) d=>(show Calls _ _ _ _ _ from rchas_any v1 v2 g.2.1 g.2.2 d W (Row.pure hr.2.1 (Hpz.out.then_ hW)) (Row.pure hr.2.2 (Hpz.out.then_ hW))))
 have hk2:∀k,k<w.heap.size→¬k=w.heap.size+1+1:=fun k h=>by omega
 have Hjn:=hid (fun W (hW:Kept (fun k=>k=w.heap.size+1+1) wz W)=>(show Calls Tryz.prog 50 #[.agg #[v1,v2],.agg #[u1,u2]] W (fun e w'=>CtxF W (Jn g.2 h.2).1 (Jn g.2 h.2).2 e w'∧w.heap.size+3≤W.heap.size) from
  (rjoinL_any v1 v2 u1 u2 g.2.1 g.2.2 h.2.1 h.2.2 W (Row.kept (Row.pure hr.2.1 Hpz.out) hW (fun k hk=>hk2 k (Row.lt hr.2.1 k hk))) (Row.kept (Row.pure hr.2.2 Hpz.out) hW (fun k hk=>hk2 k (Row.lt hr.2.2 k hk))) (Row.kept (Row.pure hs.2.1 Hpz.out) hW (fun k hk=>hk2 k (Row.lt hs.2.1 k hk))) (Row.kept (Row.pure hs.2.2 Hpz.out) hW (fun k hk=>hk2 k (Row.lt hs.2.2 k hk)))
    oe hxg.bd hxh.bd).mono fun _ _ h=>⟨h,hsz ▸ hW.size⟩))
 unfold CtxF at Hjn
 have Hsz:=hid hsz
 have hl1:=hid (fun k=>jl1_len h.1 (chas h.2.1 h.2.2) (g.1.take k))
 obtain ⟨L,X⟩:=g
 obtain ⟨K,Y⟩:=h
 dsimp only at *
 generalize hcg:chas X.1 X.2=cg at *
 generalize hch:chas Y.1 Y.2=ch at *
 clear hcg hch hr hs hg hh hxg hxh
 have hLK:L.length+K.length≤3000:=hll
 clear hll hlc hsz
 unfold dv at *
 go_enter Tryz.func54,Tryz.ntmps54
 go_wp2_with fail
 rw [←hwz]
 clear hwz
 go_loopw [5,6] (fun v i wr=>∃k:Nat,k≤L.length∧i=.int .i64 k∧wr.ownsRow wz.heap.size 43 5 v (jl1 (L.take k) K ch).length (mvs (jl1 (L.take k) K ch))∧Pure wz wr) (fun _ i _=>L.length-(RowKit.intOf i).toNat)
 case atStart=>exact ⟨0,Nat.zero_le _,rfl,World.ownsRow_nil _ _ _ _,Below.refl _ _⟩
 case round =>
  obtain ⟨k,hk,rfl,hown,hp⟩:=hrel
  obtain ⟨f0,f1,f2,f3,f4,f5,-⟩:=HF.out wr (Pure.kept hp)
  by_cases hlt:k<L.length
  ·have hlt' : (k:Int)<(L.length:Int):=by omega
   obtain ⟨b,off,rfl,hb,z0,z1,z2,z3,z4⟩:=Msgs.get (HL.out wr hp) hlt
   have Hstep:=hid (jl1_take L K ch k hlt)
   have hYl:(jl1 (L.take k) K ch).length≤k:=Nat.le_trans (hl1.out k) (by rw [List.length_take];omega)
   generalize jl1 (L.take k) K ch=Yl at *
   generalize L.getD k m0=z at *
   have Hp:=hid hp
   obtain ⟨⟨zx,zy⟩,zq,zb,zc⟩:=z
   dsimp only at z0 z1 z2 z3 z4
   obtain ⟨wa,hwa⟩:=qe (wr.alloc (.cells #[.int .i64 zx,.int .i64 zy,.string (bs zq),.string (bs zb),.int .i64 zc] 43))
   have hpa:Pure wr wa:=by rw [hwa];exact qp
   have hma:MX wr.heap.size ((zx,zy),zq,zb,zc) wa:=by rw [hwa];exact MX.made wr ((zx,zy),zq,zb,zc)
   have Hpa:=hid (hp.then_ hpa)
   have HMa:=hid hma
   have Hown:=hid (fun W (hW:Pure wa W)=>own_pure hown (hpa.then_ hW))
   obtain ⟨a3,c3,rfl⟩:=osd hown
   have Hg:=hid (Hget.out wa Hpa.out (zx,zy))
   have Hh:=hid (fun W (hW:Pure wa W)=>Hhas1.out W (Hpa.out.then_ hW) (zx,zy))
   have hj:=qh (jone K ch ((zx,zy),zq,zb,zc)=(match lget K (zx,zy) with
    | some o=>[bothM ((zx,zy),zq,zb,zc) o]
    | none=>if ch (zx,zy) then [] else [((zx,zy),zq,zb,zc)])) (rfl)
   rw [hj.out] at Hstep
   clear hj
   generalize lget K (zx,zy)=o at *
   generalize ch (zx,zy)=ct at *
   have hsa:=Hpa.out.size
   obtain ⟨m0',m1',m2',m3',m4'⟩:=hma.cells
   have g3:=pat hpa f3
   have g4:=pat hpa f4
   have g5:=pat hpa f5
   have hn0:wr.heap.size<wa.heap.size:=by rw [hwa];simp
   have Hn0:=hid hn0
   rw [hwa] at m0' m1' m2' m3' m4' g3 g4 g5
   clear hown hp hpa hma hb
   dsimp only at Hg Hh
   go_wp2_with fail
   rw [←hwa]
   clear hwa m0' m1' m2' m3' m4' g3 g4 g5 z0 z1 z2 z3 z4
   cases o with
   | some x =>
     obtain ⟨⟨xx,xy⟩,xq,xb,xc⟩:=x
     simp only [getR,mv,Option.getD_some,Option.isSome_some] at Hg
     dsimp only at Hstep
     refine Hg.out.mono ?_
     rintro e w1 ⟨rfl,hp1⟩
     obtain ⟨wb,hwb⟩:=qe (w1.alloc (.cells #[.int .i64 xx,.int .i64 xy,.string (bs xq),.string (bs xb),.int .i64 xc] 43))
     have hpb:Pure w1 wb:=by rw [hwb];exact qp
     have hmb:MX w1.heap.size ((xx,xy),xq,xb,xc) wb:=by rw [hwb];exact MX.made w1 ((xx,xy),xq,xb,xc)
     have Hpb:=hid (hp1.then_ hpb)
     have HMb:=hid hmb
     obtain ⟨m0',m1',m2',m3',m4'⟩:=(HMa.out.pure Hpb.out).cells
     obtain ⟨-,-,-,f3',f4',f5',-⟩:=HF.out wb (Pure.kept (Hpa.out.then_ Hpb.out))
     rw [hwb] at m0' m1' m2' m3' m4' f3' f4' f5'
     have Hh1:=hid (Hh.out wb Hpb.out)
     have hs1:=hp1.size
     clear hp1 hpb hmb f0 f1 f2 f3 f4 f5 Hg Hh
     go_wp2_with fail
     rw [←hwb]
     clear hwb m0' m1' m2' m3' m4' f3' f4' f5'
     refine Hh1.out.mono ?_
     rintro e w2 ⟨rfl,hp2⟩
     have Hp2:=hid (Hpb.out.then_ hp2)
     obtain ⟨m0',m1',m2',m3',m4'⟩:=(HMa.out.pure Hp2.out).cells
     obtain ⟨n0',n1',n2',n3',n4'⟩:=(HMb.out.pure hp2).cells
     have Hb:=hid (rboth_any ((zx,zy),zq,zb,zc) ((xx,xy),xq,xb,xc) w2)
     generalize bothM ((zx,zy),zq,zb,zc) ((xx,xy),xq,xb,xc)=y at *
     obtain ⟨⟨yx,yy⟩,yq,yb,yc⟩:=y
     unfold mv at Hb
     dsimp only at Hb
     clear hp2 Hh1
     go_wp2_with fail
     clear m0' m1' m2' m3' m4' n0' n1' n2' n3' n4'
     refine Hb.out.mono ?_
     rintro e w3 ⟨rfl,hp3⟩
     have H3:=hid (Hp2.out.then_ hp3)
     have hs3:=H3.out.size
     clear hp3 Hb
     have b4:wz.heap.size≤(w3.alloc (.cells #[.int .i64 yx,.int .i64 yy,.string (bs yq),.string (bs yb),.int .i64 yc] 43)).heap.size:=by simp;omega
     go_wp2_with (at_builtin;refine wpList_append_msgs rfl _ _ rfl wz.heap.size _ Yl Yl.length rfl ((Hown.out w3 H3.out).alloc _) _ [((yx,yy),yq,yb,yc)] 1 rfl (msgs_lit w3 ((yx,yy),yq,yb,yc)) oe b4 ?_)
     intro v4 w4 hown4 hg4
     have Hown4:=hid hown4
     have hpn:=hid (((Hpa.out.then_ H3.out).alloc oe _).grown hg4 qc (fun k hk=>((Hown.out w3 H3.out).lt k hk).1))
     clear hown4 hg4
     go_wp2
     go_roundw
     case rel=>exact ⟨k+1,by omega,by go_num,by rw [Hstep.out];simpa using Hown4.out,hpn.out⟩
     case measure=>simp [RowKit.intOf];omega
   | none =>
     have hg0:getR none=.tuple #[.agg #[.int .i64 0,.int .i64 0,.string ⟨#[]⟩,.string ⟨#[]⟩,.int .i64 0],.bool false]:=rfl
     rw [hg0] at Hg
     clear hg0
     dsimp only at Hstep
     refine Hg.out.mono ?_
     rintro e w1 ⟨rfl,hp1⟩
     obtain ⟨wb,hwb⟩:=qe (w1.alloc (.cells #[.int .i64 0,.int .i64 0,.string ⟨#[]⟩,.string ⟨#[]⟩,.int .i64 0] 43))
     have hpb:Pure w1 wb:=by rw [hwb];exact qp
     have Hpb:=hid (hp1.then_ hpb)
     obtain ⟨m0',m1',m2',m3',m4'⟩:=(HMa.out.pure Hpb.out).cells
     obtain ⟨-,-,-,f3',f4',f5',-⟩:=HF.out wb (Pure.kept (Hpa.out.then_ Hpb.out))
     rw [hwb] at m0' m1' m2' m3' m4' f3' f4' f5'
     have Hh1:=hid (Hh.out wb Hpb.out)
     have hs1:=hp1.size
     clear hp1 hpb f0 f1 f2 f3 f4 f5 Hg Hh
     go_wp2_with fail
     rw [←hwb]
     clear hwb m0' m1' m2' m3' m4' f3' f4' f5'
     refine Hh1.out.mono ?_
     rintro e w2 ⟨rfl,hp2⟩
     have Hp2:=hid (Hpb.out.then_ hp2)
     obtain ⟨m0',m1',m2',m3',m4'⟩:=(HMa.out.pure Hp2.out).cells
     clear hp2 Hh1
     cases ct with
     | true =>
       simp only [if_true,List.append_nil] at Hstep
       go_wp2
       go_roundw
       case rel=>exact ⟨k+1,by omega,by go_num,by rw [Hstep.out];exact Hown.out w2 Hp2.out,Hpa.out.then_ Hp2.out⟩
       case measure=>simp [RowKit.intOf];omega
     | false =>
       simp only [Bool.false_eq_true,if_false] at Hstep
       have hs3:=Hp2.out.size
       have b4:wz.heap.size≤(w2.alloc (.cells #[.int .i64 zx,.int .i64 zy,.string (bs zq),.string (bs zb),.int .i64 zc] 43)).heap.size:=by simp;omega
       go_wp2_with (at_builtin;refine wpList_append_msgs rfl _ _ rfl wz.heap.size _ Yl Yl.length rfl ((Hown.out w2 Hp2.out).alloc _) _ [((zx,zy),zq,zb,zc)] 1 rfl (msgs_lit w2 ((zx,zy),zq,zb,zc)) oe b4 ?_)
       intro v4 w4 hown4 hg4
       have Hown4:=hid hown4
       have hpn:=hid (((Hpa.out.then_ Hp2.out).alloc oe _).grown hg4 qc (fun k hk=>((Hown.out w2 Hp2.out).lt k hk).1))
       clear hown4 hg4
       go_wp2
       go_roundw
       case rel=>exact ⟨k+1,by omega,by go_num,by rw [Hstep.out];simpa using Hown4.out,hpn.out⟩
       case measure=>simp [RowKit.intOf];omega
  ·have hlt' : ¬(k:Int)<(L.length:Int):=by omega
   rw [List.take_of_length_le oe] at hown
   have hl0:(jl1 L K ch).length≤L.length:=jl1_len K ch L
   obtain ⟨Y1,hY1⟩ : ∃Y1,jl1 L K ch=Y1:=⟨_,rfl⟩
   rw [hY1] at hown hl0 hbj
   have Hown:=hid (fun W (hW:Pure wr W)=>own_pure hown hW)
   obtain ⟨a3,c3,rfl⟩:=osd hown
   have Hp:=hid hp
   have Hsr:=hid hp.size
   clear hown hp hY1 hl1 Hget HL Hhas1
   go_wp2_with fail
   clear f0 f1 f2 f3 f4 f5
   go_loopw [5,11] (fun v i wr=>∃k:Nat,k≤K.length∧i=.int .i64 k∧wr.ownsRow wz.heap.size 43 5 v (Y1++jl2 (K.take k) cg).length (mvs (Y1++jl2 (K.take k) cg))∧Pure wz wr) (fun _ i _=>K.length-(RowKit.intOf i).toNat)
   case atStart=>exact ⟨0,Nat.zero_le _,rfl,by simpa [jl2] using Hown.out wr (Below.refl _ _),Hp.out⟩
   case round =>
    obtain ⟨k,hk,rfl,hown,hp⟩:=hrel
    obtain ⟨f0,f1,f2,f3,f4,f5,-⟩:=HF.out wr (Pure.kept hp)
    by_cases hlt:k<K.length
    ·have hlt' : (k:Int)<(K.length:Int):=by omega
     obtain ⟨b,off,rfl,hb,z0,z1,z2,z3,z4⟩:=Msgs.get (HK.out wr hp) hlt
     have Hstep:=qh (jl2 (K.take (k+1)) cg=jl2 (K.take k) cg++(if (!cg (K.getD k m0).1) then [K.getD k m0] else [])) (filt_take _ K k hlt)
     have hYl:(Y1++jl2 (K.take k) cg).length≤L.length+k:=by
      rw [List.length_append]
      have:=List.length_filter_le (fun m:Msg=>!cg m.1) (K.take k)
      rw [List.length_take] at this
      unfold jl2;omega
     have Hs2:=qh (Y1++jl2 (K.take (k+1)) cg=(Y1++jl2 (K.take k) cg)++(if (!cg (K.getD k m0).1) then [K.getD k m0] else [])) (by rw [Hstep.out,List.append_assoc])
     generalize Y1++jl2 (K.take k) cg=Yl at *
     generalize K.getD k m0=z at *
     clear Hstep
     have Hp2:=hid hp
     obtain ⟨⟨zx,zy⟩,zq,zb,zc⟩:=z
     dsimp only at z0 z1 z2 z3 z4
     obtain ⟨wa,hwa⟩:=qe (wr.alloc (.cells #[.int .i64 zx,.int .i64 zy,.string (bs zq),.string (bs zb),.int .i64 zc] 43))
     have hpa:Pure wr wa:=by rw [hwa];exact qp
     have hma:MX wr.heap.size ((zx,zy),zq,zb,zc) wa:=by rw [hwa];exact MX.made wr ((zx,zy),zq,zb,zc)
     have Hpa:=hid (hp.then_ hpa)
     have HMa:=hid hma
     have Hown2:=hid (fun W (hW:Pure wa W)=>own_pure hown (hpa.then_ hW))
     obtain ⟨a4,c4,rfl⟩:=osd hown
     have Hh:=hid (Hhas0.out wa (Hp2.out.then_ hpa) (zx,zy))
     dsimp only at Hs2 Hh
     generalize cg (zx,zy)=ct at *
     have hsa:=Hpa.out.size
     obtain ⟨m0',m1',m2',m3',m4'⟩:=hma.cells
     have g1:=pat hpa f1
     have g2:=pat hpa f2
     rw [hwa] at m0' m1' m2' m3' m4' g1 g2
     clear hown hp hpa hma hb
     go_wp2_with fail
     rw [←hwa]
     clear hwa m0' m1' m2' m3' m4' g1 g2 z0 z1 z2 z3 z4 f0 f1 f2 f3 f4 f5
     refine Hh.out.mono ?_
     rintro e w2 ⟨rfl,hp2⟩
     have H2:=hid hp2
     obtain ⟨m0',m1',m2',m3',m4'⟩:=(HMa.out.pure hp2).cells
     have hs3:=hp2.size
     clear hp2 Hh
     cases ct with
     | true =>
       simp only [Bool.not_true,Bool.false_eq_true,if_false,List.append_nil] at Hs2
       go_wp2
       go_roundw
       case rel=>exact ⟨k+1,by omega,by go_num,by rw [Hs2.out];exact Hown2.out w2 H2.out,Hpa.out.then_ H2.out⟩
       case measure=>simp [RowKit.intOf];omega
     | false =>
       simp only [Bool.not_false,if_true] at Hs2
       have b4:wz.heap.size≤(w2.alloc (.cells #[.int .i64 zx,.int .i64 zy,.string (bs zq),.string (bs zb),.int .i64 zc] 43)).heap.size:=by simp;omega
       go_wp2_with (at_builtin;refine wpList_append_msgs rfl _ _ rfl wz.heap.size _ Yl Yl.length rfl ((Hown2.out w2 H2.out).alloc _) _ [((zx,zy),zq,zb,zc)] 1 rfl (msgs_lit w2 ((zx,zy),zq,zb,zc)) oe b4 ?_)
       intro v4 w4 hown4 hg4
       have Hown4:=hid hown4
       have hpn:=hid (((Hpa.out.then_ H2.out).alloc oe _).grown hg4 qc (fun k hk=>((Hown2.out w2 H2.out).lt k hk).1))
       clear hown4 hg4
       go_wp2
       go_roundw
       case rel=>exact ⟨k+1,by omega,by go_num,by rw [Hs2.out,List.length_append];exact Hown4.out,hpn.out⟩
       case measure=>simp [RowKit.intOf];omega
    ·have hlt' : ¬(k:Int)<(K.length:Int):=by omega
     rw [List.take_of_length_le oe] at hown
     have hzl:(Y1++jl2 K cg).length≤3000:=by
      rw [List.length_append]
      have:=List.length_filter_le (fun m:Msg=>!cg m.1) K
      unfold jl2;omega
     generalize Y1++jl2 K cg=Z at *
     obtain ⟨a4,c4,rfl⟩:=osd hown
     have Hpz2:=hid (Hpz.out.then_ hp)
     have hr0:Hid (RsB (w.heap.size+1+1) wr.drew):=(show RsB (w.heap.size+1+1) wr from (hp.block _ (lob hbk.out.2.2)).trans hbk.out.2.2)
     have hS:Hid (∀W,Kept (fun k=>k=w.heap.size+1+1) wr W→(W.cell? ⟨w.heap.size,1,none⟩=some v1∧W.cell? ⟨w.heap.size,2,none⟩=some v2∧W.cell? ⟨w.heap.size+1,1,none⟩=some u1∧W.cell? ⟨w.heap.size+1,2,none⟩=some u2∧Kept (fun k=>k=w.heap.size+1+1) wr W)):=fun W hW=>by
      obtain ⟨-,e1,e2,-,e4,e5,-⟩:=HF.out W (Kept.trans (Pure.kept hp) hW)
      exact ⟨e1,e2,e4,e5,hW⟩
     have hst:=hid (hS.out wr.drew (Kept.refl _ _).drew)
     have hS2:Hid (∀W:World,(W.cell? ⟨w.heap.size,1,none⟩=some v1∧W.cell? ⟨w.heap.size,2,none⟩=some v2∧W.cell? ⟨w.heap.size+1,1,none⟩=some u1∧W.cell? ⟨w.heap.size+1,2,none⟩=some u2∧Kept (fun k=>k=w.heap.size+1+1) wr W)→Kept (fun k=>k=w.heap.size+1+1) wr W):=fun W h=>h.2.2.2.2
     have hss:=Hpz2.out.size
     have hs3:w.heap.size+3≤wr.heap.size:=by have:=Hsz.out;have:=hp.size;omega
     have hsr:=hid (fun W (hW:Kept (fun k=>k=w.heap.size+1+1) wr W)=>(show Calls Tryz.prog 103 #[.slice a4 Z.length c4] W (fun e w'=>(∃v',e=.returned v'∧w'.ownsRow W.heap.size 43 5 v' (msort Z).length (mvs (msort Z))∧Pure W w')∧w.heap.size+3≤W.heap.size) from
      (rsorted_any (.slice a4 Z.length c4) Z W (Row.kept (Row.of_own hown:Msgs wr (.slice a4 Z.length c4) Z) hW (fun k hk e=>by have:=(hown.lt k (rb_own hk)).1;have:=Hsz.out;omega)) oe).mono fun _ _ h=>⟨h,Nat.le_trans hs3 hW.size⟩))
     have hjn:=hid (fun W (hW:Kept (fun k=>k=w.heap.size+1+1) wr W)=>Hjn.out W (Kept.trans (Pure.kept hp) hW))
     clear hown hp HF HK Hjn Hhas0 Hown Hp hss hzl
     go_wp2_with fail
     clear f0 f1 f2 f3 f4 f5
     go_region_held3 (fun W=>W.cell? ⟨w.heap.size,1,none⟩=some v1∧W.cell? ⟨w.heap.size,2,none⟩=some v2∧W.cell? ⟨w.heap.size+1,1,none⟩=some u1∧W.cell? ⟨w.heap.size+1,2,none⟩=some u2∧Kept (fun k=>k=w.heap.size+1+1) wr W)
      (first|with_reducible exact hst.out|with_reducible exact Hid.out qa|with_reducible exact hS.out _ (Kept.trans (hS2.out _ qa) (Pure.kept qa))|exact hS.out _ (Kept.setCell (Kept.setCell (Kept.setCell (hS2.out _ qa) (fun _=>rfl) _) (fun _=>rfl) _) (fun _=>rfl) _))
      ((first
        | (go_at_call 103;(with_reducible refine (hsr.out _ (hS2.out _ qa)).mono ?_);rintro e w7 ⟨⟨v7,rfl,hd7,hp7⟩,hz7⟩;obtain ⟨a7,c7,rfl⟩:=osd hd7;obtain ⟨hr7,x70,x71,x72,f70,f71,f72⟩:=RsB.go qa hp7;have hs7:=hid (hS.out w7 (Kept.trans (hS2.out _ qa) (Pure.kept hp7))))
        | (go_at_call 50;(with_reducible refine (hjn.out _ (hS2.out _ qa)).mono ?_);rintro e w8 ⟨⟨t1,t2,rfl,hd8,he8,hp8,hf8,hg8⟩,hz8⟩;obtain ⟨a8,c8,rfl⟩:=hd8.shape;obtain ⟨b8,k8,rfl⟩:=he8.shape;obtain ⟨hr8,x80,x81,x82,f80,f81,f82⟩:=RsB.go qa hp8)))
     have hk9:Kept (fun k=>k=w.heap.size+1+1) wr w8:=Kept.trans (hS2.out _ hs7.out) (Pure.kept hp8)
     have hw8:Pure w w8:=(Kept.trans (Pure.kept (S:=fun k=>w.heap.size≤k) Hpz2.out) (hk9.mono (fun k _ e=>(show w.heap.size≤k by omega)))).below (Nat.le_refl _) (fun k hk e=>by omega)
     have hd98:=own_pure hd7 hp8
     obtain ⟨t0,t1,t2,hfin⟩:=bag_ret (w:=w) (g:=bjoin (L,X) (K,Y)) hr8.out oe hw8 (by rw [hbj.out];exact (show BR3 _ _ _ (msort Z,(Jn X Y).1,(Jn X Y).2) w8 from ⟨Row.of_own hd98,hd8,he8⟩))
      ⟨fun k hk=>by have:=(hd98.lt k (rb_own hk)).1;omega,fun k hk=>by have:=hf8 k hk;omega,fun k hk=>by have:=hg8 k hk;omega⟩
     have T0:=hid t0
     have T1:=hid t1
     have T2:=hid t2
     have Hfin:=hid hfin
     clear t0 t1 t2 hfin hd7 hd8 he8 hd98 hp7 hp8 hw8 hk9 hs7 hr7 hr8 x70 x71 x72 f70 f71 f72 x80 x81 x82 f80 f81 f82 hst hS hS2 hsr hjn hf8 hg8
     go_wp2
     exact bodyPost_ret (v:=.agg #[.slice a7 (msort Z).length c7,.slice a8 (Jn X Y).1.length c8,.slice b8 (Jn X Y).2.length k8]) (by simp [results,Tryz.results54,go_sem,T0.out,T1.out,T2.out]) rfl Hfin.out
end
section
set_option maxHeartbeats 8000000
set_option maxRecDepth 8000
open Go.RowKit Go.Maps Go.Shelf
theorem slice_pre_eq {P:Program} {t e:TypeId} {size:Nat} (ht:P.underlying t=some (.slice e)) {w:World} {a:Option Addr} {n cap:Nat} {xs:List Value} (h:Row w (.slice a n cap) n size xs) {k:Nat} (hk:k≤n) (hp:a=none∨∃b o,a=some ⟨b,o,none⟩) (hsz:∀W,(sizeOf e).run P W=.ok size W) :
 (∀W,(Instr.slice t (.slice a n cap) none (some (.int .i64 k)) none).run P W=.ok (.slice a k cap) W)∧∀W,Row W (.slice a n cap) n size xs→Row W (.slice a k cap) k size (xs.take (k*size)):=by
 obtain ⟨hl,a',cap',e',h1,h2,hc⟩:=h
 cases e'
 have hte:P.elem t=e:=by simp [Program.elem,ht]
 have ht' : P.underlying t=some (.slice (P.elem t)):=by rw [hte];exact ht
 refine ⟨fun W=>?_,fun W hW=>?_⟩
 ·rw [run_slice_h (P:=P) (w:=W) t a n cap ht' .i64 (k:Int) oe oe,hte,hsz]
  rcases hp with rfl|⟨b,o,rfl⟩
  ·simp [sliced,go_sem]
  ·by_cases hz:cap=0
   ·simp [sliced,go_sem,hz]
   ·simp [sliced,go_sem,Addr.add]
 ·rcases hp with rfl|⟨b,o,rfl⟩
  ·rcases hc with rfl|⟨_,_,e,_⟩
   ·obtain rfl:n=0:=by omega
    obtain rfl:k=0:=by omega
    exact ⟨by simp,none,0,rfl,by omega,by simp,.inl rfl⟩
   ·cases e
  ·exact row_pre hW hk
theorem gvs_take {α:Type} {f:α→List Value} {s:Nat} (hE:Enc f s):∀(l:List α) (k:Nat),(gvs f l).take (k*s)=gvs f (l.take k)
 | [],k=>by simp [gvs]
 | a::l,0=>by simp [gvs]
 | a::l,k+1=>by
   have ih:=gvs_take hE l k
   have e:gvs f (a::l)=f a++gvs f l:=rfl
   have e2:gvs f ((a::l).take (k+1))=f a++gvs f (l.take k):=rfl
   rw [e,e2,←ih,List.take_append,List.take_of_length_le (by rw [hE.len,Nat.succ_mul];omega),hE.len,show (k+1)*s-s=k*s by rw [Nat.succ_mul];omega]
theorem sizeTag (W:World):(sizeOf 90).run Tryz.prog W=.ok 2 W:=by kernel_rfl
theorem tags_tail {w:World} {b o n cap:Nat} {x:Tag} {l:List Tag} (h:Tags w (.slice (some ⟨b,o,none⟩) n cap) (x::l)) :
 ∃v',(∀W,(Instr.slice 49 (.slice (some ⟨b,o,none⟩) n cap) (some (.int .i64 1)) none none).run Tryz.prog W=.ok v' W)∧Tags w v' l∧∀j,v'.rb=some j→(Value.slice (some ⟨b,o,none⟩) n cap).rb=some j:=by
 have e:n=(x::l).length:=by obtain ⟨a',c',e⟩:=GRow.shape h;injection e
 subst e
 obtain ⟨v',h1,h2,h3⟩:=slice_suf_off (P:=Tryz.prog) Tryz.underlying49 h (k:=1) qb (.inr ⟨_,_,rfl⟩) sizeTag
 refine ⟨v',h1,?_,h3⟩
 have:=h2 w h
 have e2:(gvs tcells (x::l)).drop (1*2)=gvs tcells l:=rfl
 rw [e2] at this
 exact this
theorem tags_vlen {w:World} {v:Value} {l:List Tag} (h:Tags w v l):vlen v=l.length:=by obtain ⟨a,c,rfl⟩:=h.shape;rfl
def tvlen2 (a b:Value):Nat:=vlen a+vlen b
theorem tag_lit_cells (w:World) (t:Tag):∀j u,(gvs tcells [t])[j]?=some u→(w.alloc (.cells #[.string (bs t.1),.int .i64 t.2] 90)).cell? ((⟨w.heap.size,0,none⟩ : Addr).add j)=some u:=by
 intro j u hj
 rw [Addr.add_lit,Nat.zero_add,World.cell?_alloc_new]
 simpa [gvs,tcells] using hj
structure TI (w:World) (total:List Tag) (v0 v1:Value) (l k:List Tag) (v5:Value) (Y:List Tag) (W:World):Prop where
 h0:Tags w v0 l
 h1:Tags w v1 k
 own:W.ownsRow w.heap.size 90 2 v5 Y.length (gvs tcells Y)
 p:Pure w W
 t:Y++tmrg l k=total
 n:Y.length+l.length+k.length≤10000
section
variable {w W W' : World} {total:List Tag} {v0 v1 v5 v0' v1' v5' : Value} {l k Y:List Tag} {x y:Tag}
theorem TI.left (h:TI w total v0 v1 (x::l) k v5 Y W) (hk:k=[]∨∃y k',k=y::k'∧tlt x.1 y.1=true) (ht:Tags w v0' l) (ho:W'.ownsRow w.heap.size 90 2 v5' (Y.length+1) (gvs tcells (Y++[x]))) (hp:Pure w W'):TI w total v0' v1 l k v5' (Y++[x]) W':=by
 refine ⟨ht,h.h1,by rw [List.length_append];exact ho,hp,?_,?_⟩
 ·rw [←h.t,List.append_assoc]
  rcases hk with rfl|⟨y,k',rfl,hd⟩
  ·rw [tmrg_nil,tmrg_nil];rfl
  ·rw [tmrg,if_pos hd];rfl
 ·have:=h.n
  simp only [List.length_cons,List.length_append,List.length_nil] at *;omega
theorem TI.right (h:TI w total v0 v1 l (y::k) v5 Y W) (hl:l=[]∨∃x l',l=x::l'∧tlt x.1 y.1=false∧x.1≠y.1) (ht:Tags w v1' k) (ho:W'.ownsRow w.heap.size 90 2 v5' (Y.length+1) (gvs tcells (Y++[y]))) (hp:Pure w W'):TI w total v0 v1' l k v5' (Y++[y]) W':=by
 refine ⟨h.h0,ht,by rw [List.length_append];exact ho,hp,?_,?_⟩
 ·rw [←h.t,List.append_assoc]
  rcases hl with rfl|⟨x,l',rfl,hd,hn⟩
  ·rw [tmrg,tmrg];rfl
  ·rw [tmrg,if_neg (by simp [hd]),if_pos hn];rfl
 ·have:=h.n
  simp only [List.length_cons,List.length_append,List.length_nil] at *;omega
theorem TI.mid (h:TI w total v0 v1 (x::l) (y::k) v5 Y W) (hd:tlt x.1 y.1=false) (hn:x.1=y.1) (ht:Tags w v0' l) (ht1:Tags w v1' k) (ho:W'.ownsRow w.heap.size 90 2 v5' (Y.length+1) (gvs tcells (Y++[(x.1,max x.2 y.2)]))) (hp:Pure w W'):TI w total v0' v1' l k v5' (Y++[(x.1,max x.2 y.2)]) W':=by
 refine ⟨ht,ht1,by rw [List.length_append];exact ho,hp,?_,?_⟩
 ·rw [←h.t,List.append_assoc,tmrg,if_neg (by simp [hd]),if_neg (by simpa using hn)];rfl
 ·have:=h.n
  simp only [List.length_cons,List.length_append,List.length_nil] at *;omega
theorem TI.end_ (h:TI w total v0 v1 [] [] v5 Y W):Y=total:=by rw [←h.t,tmrg];simp
end
def TagO (w:World) (l:List Tag) (e:Ending) (w' : World):Prop:=∃v,e=.returned v∧Tags w' v l∧(∀k,v.rb=some k→w.heap.size≤k)∧Pure w w'
theorem tjoin_any (v0 v1:Value) (l0 k0:List Tag) (w:World) (h0:Tags w v0 l0) (h1:Tags w v1 k0) (hn:l0.length+k0.length≤10000) :
 Calls Tryz.prog 94 #[v0,v1] w (TagO w (tjoin l0 k0)):=by
 obtain ⟨a0,c0,rfl⟩:=h0.shape
 obtain ⟨b0,z0,rfl⟩:=h1.shape
 have Hst:=qh (TI w (tmrg l0 k0) (.slice a0 l0.length c0) (.slice b0 k0.length z0) l0 k0 (.slice none 0 0) [] w) (⟨h0,h1,World.ownsRow_nil _ _ _ _,Below.refl _ _,rfl,by simpa using hn⟩)
 have Hj:=qh (tjoin l0 k0=(tmrg l0 k0).take 100) (rfl)
 obtain ⟨i0,hi,hi0,hi1,hi2⟩:=ipt infoTag
 clear h0 h1 hn
 generalize tjoin l0 k0=R at *
 generalize tmrg l0 k0=total at *
 go_enter Tryz.func94,Tryz.ntmps94
 go_wp2_with fail
 go_step3
 go_wp2_with fail
 go_step3
 go_wp2_with fail
 go_loopw [0,1,5] (fun v0 v1 v5 wr=>∃l k Y,TI w total v0 v1 l k v5 Y wr) (fun v0 v1 _ _=>tvlen2 v0 v1)
 case atStart=>exact ⟨l0,k0,[],Hst.out⟩
 case round =>
  obtain ⟨l,k,Y,hI⟩:=hrel
  have HI:=hid hI
  obtain ⟨a0,c0,rfl⟩:=hI.h0.shape
  obtain ⟨a1,c1,rfl⟩:=hI.h1.shape
  obtain ⟨a5,c5,rfl⟩:=osd hI.own
  have hn:=hI.n
  have h0:=(show Tags wr _ l from Row.pure hI.h0 hI.p)
  have h1:=(show Tags wr _ k from Row.pure hI.h1 hI.p)
  have hY:Y.length≤10000:=by omega
  have hyy:(0:Int)≤(Y.length:Int):=by omega
  clear hI
  rcases l with _|⟨x,l⟩ <;> rcases k with _|⟨y,k⟩
  ·have hT:=HI.out.end_
   subst hT
   have hn0:(([]:List Tag).length:Int)=0:=rfl
   clear h0 h1 hn
   simp only [List.length_nil] at *
   have hmin:min (Y.length:Int) 100=((min Y.length 100:Nat):Int):=by omega
   obtain ⟨hV,hVr⟩:=slice_pre_eq (P:=Tryz.prog) Tryz.underlying49 (Row.of_own HI.out.own) (k:=min Y.length 100) oe (by rcases own_plain_d HI.out.own with ⟨p,c,e,h⟩;injection e with e1 e2 e3;subst e1;exact h) sizeTag
   rw [←hmin] at hV
   have HVr:=qh (Tags wr (.slice a5 (min Y.length 100) c5) (Y.take 100)) (by
    have:=hVr wr (Row.of_own HI.out.own)
    rw [gvs_take tenc] at this
    have e:Y.take (min Y.length 100)=Y.take 100:=by
     rcases Nat.le_total Y.length 100 with h|h
     ·rw [Nat.min_eq_left h,List.take_of_length_le (Nat.le_refl _),List.take_of_length_le h]
     ·rw [Nat.min_eq_right h]
    rw [e] at this
    have e2:(Y.take 100).length=min Y.length 100:=by rw [List.length_take,Nat.min_comm]
    show Row _ _ _ _ _
    rw [e2];exact this)
   have Hf:=qh (∀j,(Value.slice a5 (min Y.length 100) c5).rb=some j→w.heap.size≤j) (fun j hj=>(HI.out.own.lt j (by
    unfold Value.rb at hj
    unfold Value.ownBlock
    cases a5 with
    | none=>cases hj
    | some ad=>dsimp only at hj ⊢;split at hj <;> simp_all)).1)
   have hle:min Y.length 100≤c5:=by
    obtain ⟨_,a',c',e,h1,_⟩:=Row.of_own HI.out.own
    cases e;omega
   clear hVr
   go_wp2
   go_ret
   exact ⟨.slice a5 (min Y.length 100) c5,rfl,by rw [Hj.out];exact HVr.out,Hf.out,HI.out.p⟩
  ·obtain ⟨b1,o1,e,-,y0,y1⟩:=Tags.get (k:=0) h1 qb
   subst e
   obtain ⟨v1',hv1,ht1,-⟩:=tags_tail HI.out.h1
   have Ht1:=hid ht1
   obtain ⟨ys,yn⟩:=y
   simp only [List.getD_cons_zero,Nat.zero_mul,Nat.add_zero] at y0 y1
   have hm1:vlen v1'=k.length:=tags_vlen Ht1.out
   have hg1:((ys,yn)::k).length=k.length+1:=List.length_cons
   rw [hg1] at hv1 HI hn ⊢
   have hp1:((k.length:Int)+1) > 0:=by omega
   have hz1:¬((k.length:Int)+1)=0:=by omega
   have hy1:(((k.length:Int)+1) == 0)=false:=by simpa using hz1
   clear ht1 hg1 h1
   simp only [List.length_nil] at *
   clear h0
   go_wp2_with fail
   go_quiet (fail)
   obtain ⟨wp,hwp⟩:=qe (wr.drewN nq)
   have H1:=qh (Pure wr wp) (by rw [hwp];exact pdN _ _)
   have Hs1:=qh (Pure wr wp) (by rw [hwp];exact pdN _ _)
   rw [←hwp]
   clear hwp
   have y0:=pat Hs1.out y0
   have y1:=pat Hs1.out y1
   go_wp2_with fail
   go_quiet (fail)
   obtain ⟨wq,hwq⟩:=qe (wp.drewN nq)
   have H2:=qh (Pure wr wq) (by rw [hwq];exact H1.out.then_ (pdN _ _))
   have Hs2:=qh (Pure wp wq) (by rw [hwq];exact pdN _ _)
   rw [←hwq]
   clear hwq
   have y0:=pat Hs2.out y0
   have y1:=pat Hs2.out y1
   go_wp2_with (at_builtin;refine wpList_append_tags rfl _ _ rfl w.heap.size _ Y Y.length rfl ((own_pure HI.out.own H2.out).alloc _) _ [(ys,yn)] 1 rfl (tags_lit _ (ys,yn)) oe (by have:=HI.out.p.size;have:=(show Pure wr _ from H2.out).size;simp;omega) ?_)
   intro v8 w8 hown8 hg8
   have Hp8:=hid (((HI.out.p.then_ H2.out).alloc (by have:=HI.out.p.size;have:=(show Pure wr _ from H2.out).size;omega) _).grown hg8 (by have:=HI.out.p.size;have:=(show Pure wr _ from H2.out).size;simp;omega) (fun j hj=>(HI.out.own.lt j hj).1))
   have Hown8:=hid hown8
   obtain ⟨a8,c8,rfl⟩:=osd hown8
   clear hown8 hg8
   go_wp2
   go_roundw
   case rel=>exact ⟨[],k,_,HI.out.right (.inl rfl) Ht1.out Hown8.out Hp8.out⟩
   case measure=>have:vlen (Value.slice (some ⟨b1,o1,none⟩) (k.length+1) c1)=k.length+1:=rfl;simp only [tvlen2];omega
  ·obtain ⟨b0,o0,e,-,x0,x1⟩:=Tags.get (k:=0) h0 qb
   subst e
   obtain ⟨v0',hv0,ht0,-⟩:=tags_tail HI.out.h0
   have Ht0:=hid ht0
   obtain ⟨xs,xn⟩:=x
   simp only [List.getD_cons_zero,Nat.zero_mul,Nat.add_zero] at x0 x1
   have hm0:vlen v0'=l.length:=tags_vlen Ht0.out
   have hg0:((xs,xn)::l).length=l.length+1:=List.length_cons
   rw [hg0] at hv0 HI hn ⊢
   have hp0:((l.length:Int)+1) > 0:=by omega
   have hz0:¬((l.length:Int)+1)=0:=by omega
   have hy0:(((l.length:Int)+1) == 0)=false:=by simpa using hz0
   clear ht0 hg0 h0
   simp only [List.length_nil] at *
   clear h1
   go_wp2_with fail
   go_quiet (fail)
   obtain ⟨wp,hwp⟩:=qe (wr.drewN nq)
   have H1:=qh (Pure wr wp) (by rw [hwp];exact pdN _ _)
   have Hs1:=qh (Pure wr wp) (by rw [hwp];exact pdN _ _)
   rw [←hwp]
   clear hwp
   have x0:=pat Hs1.out x0
   have x1:=pat Hs1.out x1
   go_wp2_with (at_builtin;refine wpList_append_tags rfl _ _ rfl w.heap.size _ Y Y.length rfl ((own_pure HI.out.own H1.out).alloc _) _ [(xs,xn)] 1 rfl (tags_lit _ (xs,xn)) oe (by have:=HI.out.p.size;have:=(show Pure wr _ from H1.out).size;simp;omega) ?_)
   intro v8 w8 hown8 hg8
   have Hp8:=hid (((HI.out.p.then_ H1.out).alloc (by have:=HI.out.p.size;have:=(show Pure wr _ from H1.out).size;omega) _).grown hg8 (by have:=HI.out.p.size;have:=(show Pure wr _ from H1.out).size;simp;omega) (fun j hj=>(HI.out.own.lt j hj).1))
   have Hown8:=hid hown8
   obtain ⟨a8,c8,rfl⟩:=osd hown8
   clear hown8 hg8
   go_wp2
   go_roundw
   case rel=>exact ⟨l,[],_,HI.out.left (.inl rfl) Ht0.out Hown8.out Hp8.out⟩
   case measure=>have:vlen (Value.slice (some ⟨b0,o0,none⟩) (l.length+1) c0)=l.length+1:=rfl;simp only [tvlen2];omega
  ·obtain ⟨b0,o0,e,-,x0,x1⟩:=Tags.get (k:=0) h0 qb
   subst e
   obtain ⟨v0',hv0,ht0,-⟩:=tags_tail HI.out.h0
   have Ht0:=hid ht0
   obtain ⟨xs,xn⟩:=x
   simp only [List.getD_cons_zero,Nat.zero_mul,Nat.add_zero] at x0 x1
   have hm0:vlen v0'=l.length:=tags_vlen Ht0.out
   have hg0:((xs,xn)::l).length=l.length+1:=List.length_cons
   rw [hg0] at hv0 HI hn ⊢
   have hp0:((l.length:Int)+1) > 0:=by omega
   have hz0:¬((l.length:Int)+1)=0:=by omega
   have hy0:(((l.length:Int)+1) == 0)=false:=by simpa using hz0
   clear ht0 hg0 h0
   obtain ⟨b1,o1,e,-,y0,y1⟩:=Tags.get (k:=0) h1 qb
   subst e
   obtain ⟨v1',hv1,ht1,-⟩:=tags_tail HI.out.h1
   have Ht1:=hid ht1
   obtain ⟨ys,yn⟩:=y
   simp only [List.getD_cons_zero,Nat.zero_mul,Nat.add_zero] at y0 y1
   have hm1:vlen v1'=k.length:=tags_vlen Ht1.out
   have hg1:((ys,yn)::k).length=k.length+1:=List.length_cons
   rw [hg1] at hv1 HI hn ⊢
   have hp1:((k.length:Int)+1) > 0:=by omega
   have hz1:¬((k.length:Int)+1)=0:=by omega
   have hy1:(((k.length:Int)+1) == 0)=false:=by simpa using hz1
   clear ht1 hg1 h1
   have hcm:=hid (cmps_any xs ys)
   have hD:=tlt_cmp xs ys
   have HLt:=hid (fun (e:tlt xs ys=true)=>e)
   generalize Lib.compareBytes xs ys=cA at *
   by_cases hcA:cA<0
   ·have hc1:decide (cA<0)=true:=decide_eq_true hcA
    have HT:=qh (tlt xs ys=true) (by rw [hD,hc1])
    clear hD HLt hcA
    go_wp2_with fail
    go_quiet ((go_at_call 148;exact Calls.quiet_of_same (hcm.out _)))
    obtain ⟨wp,hwp⟩:=qe (wr.drewN nq)
    have H1:=qh (Pure wr wp) (by rw [hwp];exact pdN _ _)
    have Hs1:=qh (Pure wr wp) (by rw [hwp];exact pdN _ _)
    rw [←hwp]
    clear hwp
    have x0:=pat Hs1.out x0
    have x1:=pat Hs1.out x1
    go_wp2_with (at_builtin;refine wpList_append_tags rfl _ _ rfl w.heap.size _ Y Y.length rfl ((own_pure HI.out.own H1.out).alloc _) _ [(xs,xn)] 1 rfl (tags_lit _ (xs,xn)) oe (by have:=HI.out.p.size;have:=(show Pure wr _ from H1.out).size;simp;omega) ?_)
    intro v8 w8 hown8 hg8
    have Hp8:=hid (((HI.out.p.then_ H1.out).alloc (by have:=HI.out.p.size;have:=(show Pure wr _ from H1.out).size;omega) _).grown hg8 (by have:=HI.out.p.size;have:=(show Pure wr _ from H1.out).size;simp;omega) (fun j hj=>(HI.out.own.lt j hj).1))
    have Hown8:=hid hown8
    obtain ⟨a8,c8,rfl⟩:=osd hown8
    clear hown8 hg8
    go_wp2
    go_roundw
    case rel=>exact ⟨l,(ys,yn)::k,_,HI.out.left (.inr ⟨_,_,rfl,HT.out⟩) Ht0.out Hown8.out Hp8.out⟩
    case measure=>have:vlen (Value.slice (some ⟨b0,o0,none⟩) (l.length+1) c0)=l.length+1:=rfl;simp only [tvlen2];omega
   ·have hc1:decide (cA<0)=false:=decide_eq_false hcA
    have HT:=qh (tlt xs ys=false) (by rw [hD,hc1])
    clear hD HLt hcA
    by_cases hE:xs=ys
    ·have he1:((bs xs).toList != (bs ys).toList)=false:=by rw [hE];simp
     have he2:((bs xs).toList == (bs ys).toList)=true:=by rw [hE];simp
     have HE:=hid hE
     clear hE
     go_wp2_with fail
     go_quiet ((go_at_call 148;exact Calls.quiet_of_same (hcm.out _)))
     obtain ⟨wp,hwp⟩:=qe (wr.drewN nq)
     have H1:=qh (Pure wr wp) (by rw [hwp];exact pdN _ _)
     have Hs1:=qh (Pure wr wp) (by rw [hwp];exact pdN _ _)
     rw [←hwp]
     clear hwp
     have x0:=pat Hs1.out x0
     have x1:=pat Hs1.out x1
     have y0:=pat Hs1.out y0
     have y1:=pat Hs1.out y1
     go_wp2_with fail
     go_quiet (fail)
     obtain ⟨wq,hwq⟩:=qe (wp.drewN nq)
     have H2:=qh (Pure wr wq) (by rw [hwq];exact H1.out.then_ (pdN _ _))
     have Hs2:=qh (Pure wp wq) (by rw [hwq];exact pdN _ _)
     rw [←hwq]
     clear hwq
     have x0:=pat Hs2.out x0
     have x1:=pat Hs2.out x1
     have y0:=pat Hs2.out y0
     have y1:=pat Hs2.out y1
     have Hdr:=qh (Pure wr wq.drew) (H2.out.then_ qv)
     have hgr:=hid (fun (v' : Value) (w' : World) (h1:w'.ownsRow w.heap.size 90 2 v' (Y.length+1) (gvs tcells Y++gvs tcells [((xs,max xn yn):Tag)])) (h2:(wq.drew.alloc (.cells #[.string (bs xs),.int .i64 (max xn yn)] 90)).grownBy w' (Value.slice a5 Y.length c5).ownBlock)=>(show w'.ownsRow w.heap.size 90 2 v' (Y.length+1) (gvs tcells (Y++[(xs,max xn yn)]))∧Pure w w' from
      ⟨by rw [gvs_append];exact h1,((HI.out.p.then_ Hdr.out).alloc (by have:=HI.out.p.size;have:=Hdr.out.size;omega) _).grown h2 (by have:=HI.out.p.size;have:=Hdr.out.size;simp at *;omega) (fun j hj=>(HI.out.own.lt j hj).1)⟩))
     go_wp2_with fail
     go_region_law (refine step_append_own rfl (.tmp 64) (.tmp 79) 49 rfl w.heap.size 90 i0 (.agg #[.string ⟨#[]⟩,.int .i64 0]) 2 24 Tryz.underlying49 hi hi0 hi1 hi2 rfl qd (.slice a5 Y.length c5) Y.length (gvs tcells Y) (by simp [Act.eval]) (World.ownsRow.alloc (own_pure HI.out.own Hdr.out) _) ⟨wq.heap.size,0,none⟩ 1 1 (gvs tcells [((xs,max xn yn):Tag)]) (by simp [Act.eval]) rfl (tag_lit_cells wq.drew (xs,max xn yn)) (gvs_cells tenc _) (by unfold maxLen;omega) oe (by have:=HI.out.p.size;have:=Hdr.out.size;simp at *;omega) ?_;intro v' w' hown' hg';obtain ⟨ho',hp'⟩:=hgr.out v' w' hown' hg';obtain ⟨a8,c8,rfl⟩:=osd hown';have Ho8:=hid ho';have Hp8:=hid hp';clear hown' hg' ho' hp')
     all_goals
      clear x0 x1 y0 y1 hgr
      go_wp2_with fail
      go_quiet (fail)
      have Ho9:=hid (own_pure Ho8.out (pdN _ nq))
      have Hp9:=hid (Hp8.out.then_ (pdN _ nq))
      go_wp2
      go_roundw
      (case rel=>exact ⟨l,k,_,HI.out.mid HT.out HE.out Ht0.out Ht1.out Ho9.out Hp9.out⟩)
      (case measure=>have:vlen (Value.slice (some ⟨b0,o0,none⟩) (l.length+1) c0)=l.length+1:=rfl;have:vlen (Value.slice (some ⟨b1,o1,none⟩) (k.length+1) c1)=k.length+1:=rfl;simp only [tvlen2];omega)
    ·have he1:((bs xs).toList != (bs ys).toList)=true:=by rw [bne,bs_beq9,decide_eq_false hE];rfl
     have he2:((bs xs).toList == (bs ys).toList)=false:=by rw [bs_beq9,decide_eq_false hE]
     have HE:=hid hE
     clear hE
     go_wp2_with fail
     go_quiet ((go_at_call 148;exact Calls.quiet_of_same (hcm.out _)))
     obtain ⟨wp,hwp⟩:=qe (wr.drewN nq)
     have H1:=qh (Pure wr wp) (by rw [hwp];exact pdN _ _)
     have Hs1:=qh (Pure wr wp) (by rw [hwp];exact pdN _ _)
     rw [←hwp]
     clear hwp
     have x0:=pat Hs1.out x0
     have x1:=pat Hs1.out x1
     have y0:=pat Hs1.out y0
     have y1:=pat Hs1.out y1
     go_wp2_with fail
     go_quiet (fail)
     obtain ⟨wq,hwq⟩:=qe (wp.drewN nq)
     have H2:=qh (Pure wr wq) (by rw [hwq];exact H1.out.then_ (pdN _ _))
     have Hs2:=qh (Pure wp wq) (by rw [hwq];exact pdN _ _)
     rw [←hwq]
     clear hwq
     have y0:=pat Hs2.out y0
     have y1:=pat Hs2.out y1
     go_wp2_with (at_builtin;refine wpList_append_tags rfl _ _ rfl w.heap.size _ Y Y.length rfl ((own_pure HI.out.own H2.out).alloc _) _ [(ys,yn)] 1 rfl (tags_lit _ (ys,yn)) oe (by have:=HI.out.p.size;have:=(show Pure wr _ from H2.out).size;simp;omega) ?_)
     intro v8 w8 hown8 hg8
     have Hp8:=hid (((HI.out.p.then_ H2.out).alloc (by have:=HI.out.p.size;have:=(show Pure wr _ from H2.out).size;omega) _).grown hg8 (by have:=HI.out.p.size;have:=(show Pure wr _ from H2.out).size;simp;omega) (fun j hj=>(HI.out.own.lt j hj).1))
     have Hown8:=hid hown8
     obtain ⟨a8,c8,rfl⟩:=osd hown8
     clear hown8 hg8
     go_wp2
     go_roundw
     case rel=>exact ⟨(xs,xn)::l,k,_,HI.out.right (.inr ⟨_,_,rfl,HT.out,HE.out⟩) Ht1.out Hown8.out Hp8.out⟩
     case measure=>have:vlen (Value.slice (some ⟨b1,o1,none⟩) (k.length+1) c1)=k.length+1:=rfl;simp only [tvlen2];omega
end
end Go.Proofs.YtdlpnhfgjficgaaGreat
