import Derived.Test.YtdlpnhfgjficgaaGreatJQ
import Derived.Test.YtdlpnhfgjficgaaGreatHC
namespace Go.Proofs.YtdlpnhfgjficgaaGreat
section
set_option maxHeartbeats 4000000
set_option maxRecDepth 8000
open Go.RowKit Go.Maps Go.Shelf Go.Sort
theorem RdK.tear {T:TypeId} {b:Nat} {s:RS} {w W:World} (h:RdK T b s w W):RdK T b none w (W.setCell ⟨b,1,none⟩ (.bool true)):=⟨(h.r.tear h.k).1,(h.r.tear h.k).2⟩
theorem set2d {n:Nat} {W:World} {u0 u1:Value} {T:TypeId} (h:W.heap[n]?=some (.cells #[u0,u1] T (0,0))) (v0 v1:Value):((W.setCell ⟨n,0,none⟩ v0).setCell ⟨n,1,none⟩ v1).heap[n]?=some (.cells #[v0,v1] T (0,0)):=by
 have:=bsc (bsc h 0 v0) 1 v1;simpa using this
theorem rdread_any (b:Nat) (s:RS) (w:World) (h:RdAt 98 b s w) :
 Calls Tryz.prog 112 #[.pointer (some ⟨b,0,none⟩)] w (RdP 98 b (dv (rdDot s).1) (rdDot s).2 w):=by
 have hb:=h.lt
 have hint:=hid (fun s W (hW:RdAt 98 b s W)=>rintr_any b s 1099511627776 W hW qd qd)
 unfold RdP at hint ⊢
 have hd:rdDot s=match rdInt 1099511627776 (rdInt 1099511627776 s).2 with
  | (_,none)=>((0,0),none)
  | (y,some r)=>if dchk ((rdInt 1099511627776 s).1,y) then (((rdInt 1099511627776 s).1,y),some r) else ((0,0),none):=rfl
 have hi1:=hid (hint.out s)
 have hi2:=hid (hint.out (rdInt 1099511627776 s).2)
 generalize rdDot s=R at *
 generalize rdInt 1099511627776 (rdInt 1099511627776 s).2=N2 at *
 generalize rdInt 1099511627776 s=N1 at *
 obtain ⟨x,s1⟩:=N1
 obtain ⟨y,s2⟩:=N2
 dsimp only at hi1 hi2 hd
 have hchk:=hid (fun W=>rchk_any (x,y) W)
 unfold dv at hchk ⊢
 dsimp only at hchk ⊢
 have Hd:=hid hd
 clear hd hint
 obtain ⟨wz,hwz⟩:=qe (w.alloc (.cells #[.int .i64 0,.int .i64 0] 28))
 have Hz:=qh (RdK 98 b s w wz) (by rw [hwz];exact (RdK.start h).alloc _)
 have Bz:=qh (wz.heap[w.heap.size]?=some (.cells #[.int .i64 0,.int .i64 0] 28 (0,0))) (by rw [hwz];exact ban _ _)
 clear h
 go_enter Tryz.func112,Tryz.ntmps112
 go_wp2_with fail
 rw [←hwz]
 clear hwz
 refine (hi1.out wz Hz.out.r).mono ?_
 rintro e w1 ⟨rfl,hr1,hk1⟩
 have Z1:=hid (block_kept Bz.out hk1 oe)
 have hlt1:=qh (w.heap.size<w1.heap.size) (lob Z1.out)
 obtain ⟨v1,hv1⟩:=qe (w1.alloc (.cells #[.int .i64 x,.int .i64 0] 28))
 have H1:=qh (RdK 98 b s1 w v1) (by rw [hv1];exact (Hz.out.next hr1 hk1).alloc _)
 have Y1:=qh (v1.heap[w1.heap.size]?=some (.cells #[.int .i64 x,.int .i64 0] 28 (0,0))) (by rw [hv1];exact ban _ _)
 have Q1:=qh (v1.heap[w.heap.size]?=some (.cells #[.int .i64 0,.int .i64 0] 28 (0,0))) (by rw [hv1];exact bao Z1.out _)
 clear hr1 hk1 Z1 Bz Hz hi1
 go_wp2_with fail
 rw [←hv1]
 clear hv1
 generalize w1.heap.size=n at *
 refine (hi2.out v1 H1.out.r).mono ?_
 rintro e w2 ⟨rfl,hr2,hk2⟩
 have Y2:=block_kept Y1.out hk2 (by have:=hlt1.out;omega)
 have Q2:=block_kept Q1.out hk2 oe
 have H2:=hid (H1.out.next hr2 hk2)
 have c1:=cob Y2 1
 have f1:=fob Y2 1
 simp at c1
 obtain ⟨v2,hv2⟩:=qe (w2.setCell ⟨n,1,none⟩ (.int .i64 y))
 have Y3:=qh (v2.heap[n]?=some (.cells #[.int .i64 x,.int .i64 y] 28 (0,0))) (by rw [hv2];have:=bsc Y2 1 (.int .i64 y);simpa using this)
 have Q3:=qh (v2.heap[w.heap.size]?=some (.cells #[.int .i64 0,.int .i64 0] 28 (0,0))) (by rw [hv2];exact bso Q2 _ (by show ¬n=_;have:=hlt1.out;omega) _)
 have H3:=qh (RdK 98 b s2 w v2) (by rw [hv2];exact H2.out.set (by have:=hlt1.out;omega) (by have:=hlt1.out;omega) _)
 have y0:=cob Y3.out 0
 have y1:=cob Y3.out 1
 simp at y0 y1
 rw [hv2] at y0 y1
 clear hr2 hk2 Y1 Q1 H1 H2 hi2 Y2 Q2
 go_wp2_with fail
 rw [←hv2]
 clear hv2 c1 f1 y0 y1
 refine (hchk.out v2).mono ?_
 rintro e w4 ⟨rfl,hp4⟩
 have H4:=hid (H3.out.pure hp4)
 have Y4:=hid ((hp4.block _ (lob Y3.out)).trans Y3.out)
 have Q4:=hid ((hp4.block _ (lob Q3.out)).trans Q3.out)
 have hnb:=qh (n≠b∧w.heap.size<n) (by have:=hlt1.out;omega)
 obtain ⟨l,t,k0,k1,f0,f1,ht,-⟩:=H4.out.r.parts
 have a0:=cob Q4.out 0
 have a1:=cob Q4.out 1
 have a2:=fob Q4.out 0
 have a3:=fob Q4.out 1
 simp at a0 a1
 clear hp4 H3 Y3 Q3
 have Htorn:=qh ((s2=none∨dchk (x,y)=false)→RdP 98 b (.agg #[.int .i64 R.1.1,.int .i64 R.1.2]) R.2 w (.returned (.agg #[.int .i64 0,.int .i64 0])) (((w4.setCell ⟨b,1,none⟩ (.bool true)).setCell ⟨w.heap.size,0,none⟩ (.int .i64 0)).setCell ⟨w.heap.size,1,none⟩ (.int .i64 0))∧(((w4.setCell ⟨b,1,none⟩ (.bool true)).setCell ⟨w.heap.size,0,none⟩ (.int .i64 0)).setCell ⟨w.heap.size,1,none⟩ (.int .i64 0)).heap[w.heap.size]?=some (.cells #[.int .i64 0,.int .i64 0] 28 (0,0))) (fun hc=>by
  have HR:R=((0,0),none):=by
   rw [Hd.out]
   cases s2 with
   | none=>rfl
   | some r =>
     rcases hc with h|h
     ·cases h
     ·show (if _ then _ else _)=_
      rw [h];rfl
  have hT:=H4.out.tear
  have hQ:=bso Q4.out (v:=.bool true) (p:=⟨b,1,none⟩) (by show ¬b=_;omega)
  have hS:=(hT.set (Nat.le_refl w.heap.size) (i:=0) oe (.int .i64 0)).set (Nat.le_refl w.heap.size) (i:=1) oe (.int .i64 0)
  rw [HR]
  exact ⟨⟨rfl,hS.r,hS.k⟩,set2d hQ _ _⟩)
 have Hgood:=qh (∀r,s2=some r→dchk (x,y)=true→RdP 98 b (.agg #[.int .i64 R.1.1,.int .i64 R.1.2]) R.2 w (.returned (.agg #[.int .i64 x,.int .i64 y])) ((w4.setCell ⟨w.heap.size,0,none⟩ (.int .i64 x)).setCell ⟨w.heap.size,1,none⟩ (.int .i64 y))∧((w4.setCell ⟨w.heap.size,0,none⟩ (.int .i64 x)).setCell ⟨w.heap.size,1,none⟩ (.int .i64 y)).heap[w.heap.size]?=some (.cells #[.int .i64 x,.int .i64 y] 28 (0,0))) (fun r hs hc=>by
  subst hs
  have HR:R=((x,y),some r):=by
   rw [Hd.out]
   show (if _ then _ else _)=_
   rw [hc];rfl
  have hS:=(H4.out.set (Nat.le_refl w.heap.size) (i:=0) oe (.int .i64 x)).set (Nat.le_refl w.heap.size) (i:=1) oe (.int .i64 y)
  rw [HR]
  exact ⟨⟨rfl,hS.r,hS.k⟩,set2d Q4.out _ _⟩)
 have hbn:¬b=w.heap.size:=by omega
 cases hc:dchk (x,y) with
 | false =>
   obtain ⟨HT,HB⟩:=Htorn.out (.inr hc)
   have HT':=hid HT
   have HB':=hid HB
   clear hc HT HB
   go_wp2
   exact bodyPost_ret (v:=.agg #[.int .i64 0,.int .i64 0]) (by simp [results,Tryz.results112,go_sem,cob HB'.out 0,cob HB'.out 1]) rfl HT'.out
 | true =>
   cases s2 with
   | none =>
     obtain ⟨HT,HB⟩:=Htorn.out (.inl rfl)
     have HT':=hid HT
     have HB':=hid HB
     have ht' : t=true:=ht
     subst ht'
     clear hc HT HB ht
     go_wp2
     exact bodyPost_ret (v:=.agg #[.int .i64 0,.int .i64 0]) (by simp [results,Tryz.results112,go_sem,cob HB'.out 0,cob HB'.out 1]) rfl HT'.out
   | some r =>
     obtain ⟨HT,HB⟩:=Hgood.out r rfl hc
     have HT':=hid HT
     have HB':=hid HB
     have ht' : t=false:=ht
     subst ht'
     have z0:=cob Y4.out 0
     have z1:=cob Y4.out 1
     simp at z0 z1
     clear hc HT HB ht
     go_wp2
     exact bodyPost_ret (v:=.agg #[.int .i64 x,.int .i64 y]) (by simp [results,Tryz.results112,go_sem,cob HB'.out 0,cob HB'.out 1]) rfl HT'.out
theorem rrises_any (v:Value) (l:List Dot) (w:World) (hr:Dots w v l) (hl:l.length≤100000) :
 Calls Tryz.prog 200 #[v] w fun e w'=>e=.returned (.bool (riseb l))∧Pure w w':=by
 have HB:=qh (∀k,k<l.length→riseAt l k=false→riseb l=false) (fun k h e=>allB_false h e)
 have HE:=qh (∀k,l.length≤k→allB k (riseAt l)=true→k=1∨k=l.length→riseb l=true) (fun k h1 h2 h3=>by
  unfold riseb
  rcases h3 with rfl|rfl
  ·by_cases h0:l.length=0
   ·rw [h0];rfl
   ·rwa [show l.length=1 by omega]
  ·exact h2)
 generalize riseb l=R at *
 obtain ⟨a,cap,rfl⟩:=hr.shape
 have Hr:=hid hr
 have hless:=hid (fun x y W=>rless_any x y W)
 clear hr
 unfold dv at *
 go_enter Tryz.func200,Tryz.ntmps200
 go_wp2_with fail
 go_loopw [3] (fun i wr=>∃k:Nat,1≤k∧(k=1∨k≤l.length)∧i=.int .i64 k∧allB k (riseAt l)=true∧Pure w wr) (fun i _=>l.length-(RowKit.intOf i).toNat)
 case atStart=>exact ⟨1,by omega,.inl rfl,rfl,by show allB 1 (riseAt l)=true;rfl,Below.refl _ _⟩
 case round =>
  obtain ⟨k,hk1,hk,rfl,hal,hp⟩:=hrel
  have Hal:=hid hal
  clear hal
  have Hp:=hid hp
  by_cases hlt:k<l.length
  ·have hlt' : (k:Int)<(l.length:Int):=by omega
   have Hrow:=qh (Dots wr (.slice a l.length cap) l) (Row.pure Hr.out hp)
   obtain ⟨b,off,rfl,hb,x0,x1⟩:=Dots.get Hrow.out hlt
   obtain ⟨D,hD⟩:=qe (dlt (l.getD (k-1) (0,0)) (l.getD k (0,0)))
   have Hno:=hid (fun (e:D=false)=>HB.out k hlt (by unfold riseAt;rw [decide_eq_false oe,←hD,e];rfl))
   have Hyes:=hid (fun (e:D=true)=>allB_next Hal.out (show riseAt l k=true from by unfold riseAt;rw [←hD,e,Bool.or_true]))
   have hsub:IntKind.i64.wrap ((k:Int)-1)=((k-1:Nat):Int):=by rw [IntWalk.i64_in _ oe];omega
   have hsub2:(k:Int)-1=((k-1:Nat):Int):=by omega
   have hlt2:((k-1:Nat):Int)<(l.length:Int):=by omega
   obtain ⟨b',off',e',hb',y0,y1⟩:=Dots.get Hrow.out (show k-1<l.length by omega)
   cases e'
   have hn:(0:Int)≤((k-1:Nat):Int):=by omega
   have hless2:=hid (fun W=>hless.out (l.getD (k-1) (0,0)) (l.getD k (0,0)) W)
   rw [←hD] at hless2
   clear hD
   generalize l.getD k (0,0)=z at *
   generalize l.getD (k-1) (0,0)=y at *
   obtain ⟨z1,z2⟩:=z
   obtain ⟨q1,q2⟩:=y
   dsimp only at x0 x1 y0 y1 hless2
   have hS:Hid (∀W,Pure wr W→(W.cell? ⟨b,off+(k-1)*2,none⟩=some (.int .i64 q1)∧W.cell? ⟨b,off+(k-1)*2+1,none⟩=some (.int .i64 q2)∧W.cell? ⟨b,off+k*2,none⟩=some (.int .i64 z1)∧W.cell? ⟨b,off+k*2+1,none⟩=some (.int .i64 z2)∧Pure wr W)):=fun W hW =>
    ⟨(hW.cell hb').trans y0,(hW.cell hb').trans y1,(hW.cell hb).trans x0,(hW.cell hb).trans x1,hW⟩
   have hst:=hid (hS.out _ (Below.refl _ wr).drew)
   have hS2:Hid (∀W:World,(W.cell? ⟨b,off+(k-1)*2,none⟩=some (.int .i64 q1)∧W.cell? ⟨b,off+(k-1)*2+1,none⟩=some (.int .i64 q2)∧W.cell? ⟨b,off+k*2,none⟩=some (.int .i64 z1)∧W.cell? ⟨b,off+k*2+1,none⟩=some (.int .i64 z2)∧Pure wr W)→Pure wr W):=fun W h=>h.2.2.2.2
   clear hp hb hb' y0 y1 x0 x1
   generalize hj:k-1=j at *
   have hwm:IntKind.i64.wrap (j:Int)=(j:Int):=IntWalk.i64_in _ oe
   cases D
   case' false=>have HR:=hid (Hno.out rfl)
   case' true=>have HR:=hid (Hyes.out rfl)
   all_goals
    clear Hno Hyes
    go_wp2_with fail
    go_region_held3 (fun W=>W.cell? ⟨b,off+j*2,none⟩=some (.int .i64 q1)∧W.cell? ⟨b,off+j*2+1,none⟩=some (.int .i64 q2)∧W.cell? ⟨b,off+k*2,none⟩=some (.int .i64 z1)∧W.cell? ⟨b,off+k*2+1,none⟩=some (.int .i64 z2)∧Pure wr W)
     (exact qz)
     ((go_at_call 163;(with_reducible refine (hless2.out _).mono ?_);rintro e w7 ⟨rfl,hp7⟩))
    have hx:=hid (Hp.out.then_ (hS2.out w7 qa))
    clear hp7 hst hS hS2
   ·go_wp2
    go_roundw
    case rel=>exact ⟨k+1,by omega,.inr oe,by go_num,HR.out,hx.out⟩
    case measure=>simp [RowKit.intOf];omega
   ·go_wp2
    go_ret
    exact ⟨by rw [HR.out];rfl,hx.out⟩
  ·have hlt' : ¬(k:Int)<(l.length:Int):=by omega
   clear hp
   have HR:=hid (HE.out k oe Hal.out oe)
   go_wp2
   go_ret
   exact ⟨by rw [HR.out];rfl,Hp.out⟩
theorem rreadrow_any (b:Nat) (s:RS) (most:Int) (w:World) (h:RdAt 98 b s w) (hm0:0≤most) (hm:most≤100000) :
 Calls Tryz.prog 161 #[.pointer (some ⟨b,0,none⟩),.int .i64 most] w (RdRowP 98 b (rdRow most s).1 (rdRow most s).2 w):=by
 have hi1:=hid (rintr_any b s most w h oe hm0)
 have hbd:=rdInt_bd most s
 have hz:=rdInt_zero most s
 have Hr:Hid (rdRow most s=match rdItems rdDot (rdInt most s).1.toNat [] (rdInt most s).2 with
  | (_,none)=>([],none)
  | (l,some r)=>if riseb l then (l,some r) else ([],none)):=(show _=_ from rfl)
 have hread:=hid (fun s W (hW:RdAt 98 b s W)=>rdread_any b s W hW)
 have hrises:=hid (fun v l W (hW:Dots W v l) hl=>rrises_any v l W hW hl)
 have Hw:=qh (RdOwn dcells 2 28 98 b (.slice none 0 0) [] s w w) (⟨RdK.start h,World.ownsRow_nil _ _ _ _,h.lt⟩)
 unfold RdP at hi1 hread
 unfold dv at hread
 generalize rdRow most s=R at *
 generalize rdInt most s=N1 at *
 obtain ⟨x,s1⟩:=N1
 dsimp only at hi1 hbd Hr hz
 obtain ⟨n,rfl⟩ : ∃n:Nat,x=n:=⟨x.toNat,by omega⟩
 have Hr2:=hid Hr.out
 rw [Int.toNat_natCast] at Hr2
 have Hst:=hid (RdIn.start rdDot n s1 (fun e=>by have:=hz e;omega))
 obtain ⟨total,htot⟩:=qe (rdItems rdDot n [] s1)
 rw [←htot] at Hr2 Hst
 have hbn:=hbd.2 hm0
 clear h hbd Hr htot hz
 go_enter Tryz.func161,Tryz.ntmps161
 go_wp2_with fail
 refine hi1.out.mono ?_
 rintro e w1 ⟨rfl,hr1,hk1⟩
 have H1:=hid (Hw.out.next hr1 hk1)
 clear hr1 hk1
 go_wp2_with fail
 go_loopw [6,7] (fun v i wr=>∃(k:Nat) (acc:List Dot) (s:RS),i=.int .i64 k∧k≤n∧acc.length=k∧RdOwn dcells 2 28 98 b v acc s w wr∧RdIn rdDot total (n-k) acc s) (fun _ i _=>n-(RowKit.intOf i).toNat)
 case atStart=>exact ⟨0,[],s1,rfl,Nat.zero_le _,rfl,H1.out,Hst.out⟩
 case round =>
  obtain ⟨k,acc,s,rfl,hkn,hlen,hI,hin⟩:=hrel
  have HI:=hid hI
  have Hin:=hid hin
  have Hlen:=hid hlen
  have hl100:acc.length≤100000:=by omega
  obtain ⟨a,c,rfl⟩:=osd hI.own
  obtain ⟨l0,t,q0,q1,g0,g1,ht,-⟩:=hI.r.r.parts
  clear hI hin hlen
  by_cases hlt:k<n∧s≠none
  ·obtain ⟨hkn',hs⟩:=hlt
   have ht' : t=false:=by rw [ht];cases s;exact absurd rfl hs;rfl
   subst ht'
   have hlt' : (k:Int)<(n:Int):=by omega
   have Hstep:=hid (RdIn.step (f:=rdDot) (m:=n-(k+1)) rfl (by have:=Hin.out;rw [show n-k=(n-(k+1))+1 by omega] at this;exact this))
   have hrd:=hid (hread.out s)
   generalize rdDot s=D at *
   obtain ⟨⟨d1,d2⟩,s2⟩:=D
   dsimp only at hrd Hstep
   clear ht hs
   go_wp2_with fail
   refine (hrd.out wr HI.out.r.r).mono ?_
   rintro e w2 ⟨rfl,hr2,hk2⟩
   have H2:=hid (HI.out.next hr2 hk2)
   have b4:w.heap.size≤(w2.alloc (.cells #[.int .i64 d1,.int .i64 d2] 28)).heap.size:=by have:=H2.out.r.k.size;simp;omega
   clear hr2 hk2 q0 q1 g0 g1
   go_wp2_with (at_builtin;refine wlad rfl _ _ rfl w.heap.size _ acc acc.length rfl (H2.out.own.alloc _) _ [(d1,d2)] 1 rfl (dots_lit w2 d1 d2) oe b4 ?_)
   intro v3 w3 hown3 hg3
   have Hown3:=qh (w3.ownsRow w.heap.size 28 2 v3 (acc++[(d1,d2)]).length (gvs dcells (acc++[(d1,d2)]))) (by rw [List.length_append];exact hown3)
   have H3:=hid ((H2.out.alloc _).grow hg3 Hown3.out)
   obtain ⟨a3,c3,rfl⟩:=osd hown3
   clear hown3 hg3 b4
   go_wp2
   go_roundw
   case rel=>exact ⟨k+1,acc++[(d1,d2)],s2,by go_num,by omega,by simp [Hlen.out],H3.out,Hstep.out⟩
   case measure=>simp [RowKit.intOf];omega
  ·have hrs:=hid (fun W (hW:Dots W (.slice a acc.length c) acc)=>hrises.out _ acc W hW hl100)
   have hxx:(¬(k:Int)<(n:Int))∨((k:Int)<(n:Int)∧t=true):=by
    by_cases h:k<n
    ·right
     refine ⟨by omega,?_⟩
     rw [ht]
     cases s
     ·rfl
     ·exact absurd ⟨h,by simp⟩ hlt
    ·left;omega
   have Hout:=qh ((∃r,s=some r∧R=if riseb acc then (acc,some r) else ([],none))∨(s=none∧R=([],none))) (by
    cases s with
    | none=>exact .inr ⟨rfl,by rw [Hr2.out,show total=([],none) from Hin.out]⟩
    | some r =>
      have hk:k=n:=by
       by_cases h:k<n
       ·exact absurd ⟨h,by simp⟩ hlt
       ·omega
      subst hk
      have htt:=RdIn.fin (show RdIn rdDot total 0 acc (some r) by have:=Hin.out;rwa [Nat.sub_self] at this)
      exact .inl ⟨r,rfl,by rw [Hr2.out,htt]⟩)
   clear hlt ht Hin
   generalize riseb acc=V at *
   rcases hxx with hx|⟨hx,rfl⟩
   all_goals
    go_wp2_with fail
    refine (hrs.out wr HI.out.row).mono ?_
    rintro e w3 ⟨rfl,hp3⟩
    have J3:=hid (HI.out.pure hp3)
    clear hp3 q0 q1 g0 g1
    obtain ⟨l1,t1,q0,q1,g0,g1,ht1,-⟩:=J3.out.r.r.parts
    have JT:=hid (J3.out.r.tear)
    rcases Hout.out with ⟨r,hs,hR⟩|⟨hs,hR⟩
    ·subst hs
     have e' : t1=false:=ht1
     subst e'
     have HR:=hid hR
     clear hR ht1
     cases V
     ·go_wp2
      go_ret
      exact ⟨_,rfl,by rw [HR.out];exact Row.nil _ _,fun k hk=>by simp [Value.rb] at hk,by rw [HR.out];exact JT.out.r,JT.out.k⟩
     ·go_wp2
      go_ret
      exact J3.out.done (by rw [HR.out];rfl) (by rw [HR.out];rfl)
    ·subst hs
     have e' : t1=true:=ht1
     subst e'
     have HR:=hid hR
     clear hR ht1
     cases V
     ·go_wp2
      go_ret
      exact ⟨_,rfl,by rw [HR.out];exact Row.nil _ _,fun k hk=>by simp [Value.rb] at hk,by rw [HR.out];exact JT.out.r,JT.out.k⟩
     ·go_wp2
      go_ret
      exact J3.out.none_ (by rw [HR.out]) (by rw [HR.out])
end
section
open Go.RowKit Go.Maps Go.Shelf Go.Sort
theorem bs_list3 (l:List UInt8):(bs l).toList=l:=ByteArray.toList_mk l
theorem RPutW.drew {s:Nat} {w5 W:World} (h:RPutW s w5 W):RPutW s w5 W.drew:=h.pure qv
end
section
set_option maxHeartbeats 4000000
set_option maxRecDepth 8000
open Go.RowKit Go.Maps Go.Shelf
theorem rdHold_none:(rdHold none).2=none:=rfl
theorem hread_any (b:Nat) (s:RS) (w:World) (h:RdAt 117 b s w) :
 Calls Tryz.prog 98 #[.pointer (some ⟨b,0,none⟩)] w (RdRowG hcells 4 117 b (rdHolds s).1 (rdHolds s).2 w):=by
 have Hb:=hid h.lt
 have hi1:=hid (mintr_any b s 1000 w h qd qd)
 have hbd:=rdInt_bd 1000 s
 have hz:=rdInt_zero 1000 s
 have Hr:Hid (rdHolds s=match rdItems rdHold (rdInt 1000 s).1.toNat [] (rdInt 1000 s).2 with
  | (_,none)=>([],none)
  | (l,some r)=>if hchk l then (l,some r) else ([],none)):=(show _=_ from rfl)
 have hfine:=hid (fun s W (hW:RdAt 117 b s W)=>fine_any b s W hW)
 have hdot:=hid (fun s W (hW:RdAt 117 b s W)=>dread_any b s W hW)
 have h40:=hid (fun s W (hW:RdAt 117 b s W)=>mintr_any b s 1099511627776 W hW qd qd)
 have h50:=hid (fun s W (hW:RdAt 117 b s W)=>mintr_any b s 1125899906842624 W hW qd qd)
 have hneg:=hid (fun s W (hW:RdAt 117 b s W)=>(show Calls _ _ _ _ _ from by have:=mintr_any b s (-1) W hW qd qd;rw [rdInt_neg (-1) qd] at this;exact this))
 have hck:=hid (fun v l W (hW:Holds W v l) hl=>hchk_any v l W hW hl)
 have Hw:=qh (RdOwn hcells 4 94 117 b (.slice none 0 0) [] s w w) (⟨RdK.start h,World.ownsRow_nil _ _ _ _,h.lt⟩)
 unfold RdP at hi1 h40 h50 hdot hneg
 unfold dv at hdot
 generalize rdHolds s=R at *
 generalize rdInt 1000 s=N1 at *
 obtain ⟨x,s1⟩:=N1
 dsimp only at hi1 hbd Hr hz
 obtain ⟨n,rfl⟩ : ∃n:Nat,x=n:=⟨x.toNat,by omega⟩
 have Hr2:=hid Hr.out
 rw [Int.toNat_natCast] at Hr2
 have Hst:=hid (RdIn.start rdHold n s1 (fun e=>by have:=hz e;omega))
 obtain ⟨total,htot⟩:=qe (rdItems rdHold n [] s1)
 rw [←htot] at Hr2 Hst
 have hbn:=hbd.2 oe
 clear h hbd Hr htot hz
 go_enter Tryz.func98,Tryz.ntmps98
 go_wp2_with fail
 refine hi1.out.mono ?_
 rintro e w1 ⟨rfl,hr1,hk1⟩
 have H1:=hid (Hw.out.next hr1 hk1)
 clear hr1 hk1
 go_wp2_with fail
 go_loopw [3,7] (fun v i wr=>∃(k:Nat) (acc:List Hold) (s:RS),i=.int .i64 k∧k≤n∧acc.length=k∧RdOwn hcells 4 94 117 b v acc s w wr∧RdIn rdHold total (n-k) acc s) (fun _ i _=>n-(RowKit.intOf i).toNat)
 case atStart=>exact ⟨0,[],s1,rfl,Nat.zero_le _,rfl,H1.out,Hst.out⟩
 case round =>
  obtain ⟨k,acc,s,rfl,hkn,hlen,hI,hin⟩:=hrel
  have HI:=hid hI
  have Hin:=hid hin
  have Hlen:=hid hlen
  have hl100:acc.length≤1000:=by omega
  obtain ⟨a,c,rfl⟩:=osd hI.own
  clear hI hin hlen
  by_cases hlt:k<n
  ·have hlt' : (k:Int)<(n:Int):=by omega
   have Hstep:=hid (RdIn.step (m:=n-(k+1)) rdHold_none (by have:=Hin.out;rw [show n-k=(n-(k+1))+1 by omega] at this;exact this))
   have hM:rdHold s=(((rdDot s).1,(rdInt 1099511627776 (rdDot s).2).1,(rdInt 1125899906842624 (rdInt 1099511627776 (rdDot s).2).2).1),(rdInt 1125899906842624 (rdInt 1099511627776 (rdDot s).2).2).2):=rfl
   rw [hM] at Hstep
   have g1:=hid (hdot.out s)
   have g2:=hid (h40.out (rdDot s).2)
   have g3:=hid (h50.out (rdInt 1099511627776 (rdDot s).2).2)
   clear hM
   generalize rdInt 1125899906842624 (rdInt 1099511627776 (rdDot s).2).2=N3 at *
   generalize rdInt 1099511627776 (rdDot s).2=N2 at *
   generalize rdDot s=N1 at *
   obtain ⟨⟨d1,d2⟩,t1⟩:=N1
   obtain ⟨qr,t2⟩:=N2
   obtain ⟨qu,t3⟩:=N3
   dsimp only at g1 g2 g3 Hstep
   go_wp2_with fail
   refine (g1.out wr HI.out.r.r).mono ?_
   rintro e w3 ⟨rfl,hr3,hk3⟩
   have I3:=hid (HI.out.next hr3 hk3)
   obtain ⟨y3,hy3⟩:=qe (w3.alloc (.cells #[.int .i64 d1,.int .i64 d2,.int .i64 0,.int .i64 0] 94))
   have J3:=qh (RdOwn hcells 4 94 117 b (.slice a acc.length c) acc t1 w y3) (by rw [hy3];exact I3.out.alloc _)
   have M3:=qh (y3.heap[w3.heap.size]?=some (.cells #[.int .i64 d1,.int .i64 d2,.int .i64 0,.int .i64 0] 94 (0,0))) (by rw [hy3];exact ban _ _)
   have nm:=qh (w.heap.size≤w3.heap.size∧(∀j,(Value.slice a acc.length c).ownBlock=some j→j≠w3.heap.size)) (⟨I3.out.r.k.size,fun j hj e=>by have:=(I3.out.own.lt j hj).2;omega⟩)
   clear hr3 hk3 I3 g1
   go_wp2_with fail
   rw [←hy3]
   clear hy3
   generalize w3.heap.size=m at *
   refine (g2.out y3 J3.out.r.r).mono ?_
   rintro e w4 ⟨rfl,hr4,hk4⟩
   have I4:=hid (J3.out.next hr4 hk4)
   have M4':=hid (block_kept M3.out hk4 (by have:=nm.out.1;have:=J3.out.wb;omega))
   have e1:=cob M4'.out 2
   have f1:=fob M4'.out 2
   simp at e1
   obtain ⟨y4,hy4⟩:=qe (w4.setCell ⟨m,2,none⟩ (.int .i64 qr))
   have J4:=qh (RdOwn hcells 4 94 117 b (.slice a acc.length c) acc t2 w y4) (by rw [hy4];exact I4.out.set nm.out.1 nm.out.2 _)
   have M4:=qh (y4.heap[m]?=some (.cells #[.int .i64 d1,.int .i64 d2,.int .i64 qr,.int .i64 0] 94 (0,0))) (by rw [hy4];have:=bsc M4'.out 2 (.int .i64 qr);simpa using this)
   clear hr4 hk4 I4 M4' J3 M3 g2
   go_wp2_with fail
   rw [←hy4]
   clear hy4 e1 f1
   refine (g3.out y4 J4.out.r.r).mono ?_
   rintro e w5 ⟨rfl,hr5,hk5⟩
   have I5:=hid (J4.out.next hr5 hk5)
   have M5':=hid (block_kept M4.out hk5 (by have:=nm.out.1;have:=J4.out.wb;omega))
   have e1:=cob M5'.out 3
   have f1:=fob M5'.out 3
   simp at e1
   obtain ⟨y5,hy5⟩:=qe (w5.setCell ⟨m,3,none⟩ (.int .i64 qu))
   have J5:=qh (RdOwn hcells 4 94 117 b (.slice a acc.length c) acc t3 w y5) (by rw [hy5];exact I5.out.set nm.out.1 nm.out.2 _)
   have M5:=qh (y5.heap[m]?=some (.cells #[.int .i64 d1,.int .i64 d2,.int .i64 qr,.int .i64 qu] 94 (0,0))) (by rw [hy5];have:=bsc M5'.out 3 (.int .i64 qu);simpa using this)
   clear hr5 hk5 I5 M5' J4 M4 g3
   go_upto_region 7 with fail
   rw [←hy5]
   clear hy5 e1 f1
   have g0:=cob M5.out 0
   have g1:=cob M5.out 1
   have g2:=cob M5.out 2
   have g3:=cob M5.out 3
   simp at g0 g1 g2 g3
   have hs6:w.heap.size≤(y5.alloc (.cells #[.int .i64 d1,.int .i64 d2,.int .i64 qr,.int .i64 qu] 94)).heap.size:=by have:=J5.out.r.k.size;simp;omega
   go_wp2_with (at_builtin;refine wpList_append_holds rfl _ _ rfl w.heap.size _ acc acc.length rfl (J5.out.own.alloc _) _ [(((d1,d2),qr,qu):Hold)] 1 rfl (holds_lit y5 (((d1,d2),qr,qu):Hold)) oe hs6 ?_)
   intro v7 w7 hown7 hg7
   have Hown7:=qh (w7.ownsRow w.heap.size 94 4 v7 (acc++[(((d1,d2),qr,qu):Hold)]).length (gvs hcells (acc++[(((d1,d2),qr,qu):Hold)]))) (by rw [List.length_append];exact hown7)
   have J9:=hid ((J5.out.alloc _).grow hg7 Hown7.out)
   obtain ⟨a7,c7,rfl⟩:=osd hown7
   clear hown7 hg7 g0 g1 g2 g3 hs6
   go_wp2_with fail
   refine (hfine.out t3 w7 J9.out.r.r).mono ?_
   rintro e w8 ⟨rfl,hp8⟩
   have J8:=hid (J9.out.pure hp8)
   clear hp8
   cases t3 with
   | none =>
     have HR:=qh (R=([],none)) (by
      have e:total=([],none):=Hstep.out
      rw [Hr2.out,e])
     go_wp2
     go_ret
     exact J8.out.none_ (by rw [HR.out]) (by rw [HR.out])
   | some r3 =>
     go_wp2
     go_roundw
     case rel=>exact ⟨k+1,acc++[((d1,d2),qr,qu)],some r3,by go_num,by omega,by simp [Hlen.out],J8.out,Hstep.out⟩
     case measure=>simp [RowKit.intOf];omega
  ·obtain rfl:k=n:=by omega
   have hlt' : ¬(k:Int)<(k:Int):=by omega
   have Htt:=hid (RdIn.fin (by have:=Hin.out;rw [Nat.sub_self] at this;exact this))
   go_wp2_with fail
   refine (hfine.out s wr HI.out.r.r).mono ?_
   rintro e w3 ⟨rfl,hp3⟩
   have J3:=hid (HI.out.pure hp3)
   clear hp3
   cases s with
   | none =>
     have HR:=qh (R=([],none)) (by rw [Hr2.out,Htt.out])
     go_wp2_with fail
     refine (hneg.out none w3 J3.out.r.r).mono ?_
     rintro e w5 ⟨rfl,hr5,hk5⟩
     have J5:=hid (J3.out.next hr5 hk5)
     clear hr5 hk5
     go_wp2
     go_ret
     exact J5.out.none_ (by rw [HR.out]) (by rw [HR.out])
   | some r =>
     have HRr:=qh (R=if hchk acc then (acc,some r) else ([],none)) (by rw [Hr2.out,Htt.out])
     have hcb:=hid (hck.out _ _ w3 J3.out.row oe)
     unfold er1 at hcb
     generalize hchk acc=V at *
     go_wp2_with fail
     refine hcb.out.mono ?_
     rintro e w4 ⟨rfl,hp4⟩
     have J4:=hid (J3.out.pure hp4)
     clear hp4
     cases V with
     | false =>
       have HR:=qh (R=([],none)) (HRr.out)
       go_wp2_with fail
       refine (hneg.out (some r) w4 J4.out.r.r).mono ?_
       rintro e w5 ⟨rfl,hr5,hk5⟩
       have J5:=hid (J4.out.next hr5 hk5)
       clear hr5 hk5
       go_wp2
       go_ret
       exact J5.out.none_ (by rw [HR.out]) (by rw [HR.out])
     | true =>
       have HR:=qh (R=(acc,some r)) (HRr.out)
       go_wp2
       go_ret
       exact J4.out.done (by rw [HR.out]) (by rw [HR.out])
end
section
open Go.RowKit Go.Maps Go.Shelf Go.Sort
def svs (l:List (List UInt8)):List Value:=l.map fun s=>.string (bs s)
def Strs (w:World) (v:Value) (l:List (List UInt8)):Prop:=Row w v l.length 1 (svs l)
theorem Strs.shape {w:World} {v:Value} {l:List (List UInt8)} (h:Strs w v l):∃a cap,v=.slice a l.length cap:=Row.shape h
theorem Strs.get {w:World} {a:Option Addr} {n cap:Nat} {l:List (List UInt8)} (h:Strs w (.slice a n cap) l) {k:Nat} (hk:k<l.length) :
 ∃b off,a=some ⟨b,off,none⟩∧b<w.heap.size∧w.cell? ⟨b,off+k,none⟩=some (.string (bs (l.getD k []))):=by
 have e:n=l.length:=by obtain ⟨a',c',e⟩:=h.shape;injection e
 subst e
 obtain ⟨b,off,e,hb,hc⟩:=Row.elem h hk
 refine ⟨b,off,e,hb,?_⟩
 have:=hc 0 oe
 simp only [Nat.mul_one,Nat.add_zero] at this
 rw [this]
 simp [svs,List.getD,hk]
theorem take_succ_s (l:List (List UInt8)) (k:Nat) (h:k<l.length):l.take (k+1)=l.take k++[l.getD k []]:=by
 rw [List.take_succ_eq_append_getElem h];simp [List.getD,h]
def StrsO (w:World) (l:List (List UInt8)) (e:Ending) (w' : World):Prop:=∃v',e=.returned v'∧w'.ownsRow w.heap.size 9 1 v' l.length (svs l)∧Pure w w'
theorem svs_append (l k:List (List UInt8)):svs (l++k)=svs l++svs k:=by simp [svs]
theorem svs_one (l:List (List UInt8)):∀u ∈ svs l,u.oneCell'=true:=by
 intro u hu
 simp only [svs,List.mem_map] at hu
 obtain ⟨s,_,rfl⟩:=hu
 rfl
theorem infoStr:(Tryz.prog.info? 9).map (fun i=>(i.zero,i.size,i.bytes))=some (some (.string ⟨#[]⟩),1,16):=by kernel_rfl
end
section
set_option maxHeartbeats 2000000
open Go.RowKit Go.Maps Go.Shelf Go.Sort
theorem bs_list2 (l:List UInt8):(bs l).toList=l:=ByteArray.toList_mk l
theorem ssame_short {l k:List (List UInt8)} (h:l.length≠k.length):decide (l=k)=false:=by simp;exact fun e=>h (by rw [e])
theorem ssame_take {l k:List (List UInt8)} {i:Nat} (h:l.take i=k.take i) (h1:i<l.length) (h2:i<k.length) (e:l.getD i []=k.getD i []):l.take (i+1)=k.take (i+1):=by
 rw [take_succ_s l i h1,take_succ_s k i h2,h,e]
theorem ssame_full {l k:List (List UInt8)} (h:l.length=k.length) (e:l.take l.length=k.take l.length):decide (l=k)=true:=by rw [List.take_length,h,List.take_length] at e;simp [e]
theorem ssame_not {l k:List (List UInt8)} {i:Nat} (e:¬l.getD i []=k.getD i []):decide (l=k)=false:=by simp;exact fun h=>e (by rw [h])
theorem rstexts_any (v u:Value) (l k:List (List UInt8)) (w:World) (hv:Strs w v l) (hu:Strs w u k) :
 Calls Tryz.prog 32 #[v,u] w fun e w'=>e=.returned (.bool (decide (l=k)))∧Pure w w':=by
 obtain ⟨a,ca,rfl⟩:=hv.shape
 obtain ⟨b,cb,rfl⟩:=hu.shape
 have h2:l.length≤maxLen:=Row.len_le hv
 have h4:k.length≤maxLen:=Row.len_le hu
 unfold maxLen at h2 h4
 have Hv:=hid hv
 have Hu:=hid hu
 clear hv hu
 by_cases hl:l.length=k.length
 ·have hne:((l.length:Int) != (k.length:Int))=false:=by simp [hl]
  have hl1:l.length≤k.length:=by omega
  have hl2:k.length≤l.length:=by omega
  have Hl:=hid hl
  clear hl
  go_enter Tryz.func32,Tryz.ntmps32
  go_wp2
  go_loopw [5] (fun x wr=>∃i:Nat,i≤l.length∧x=.int .i64 i∧l.take i=k.take i∧∃n,wr=w.drewN n) (fun x _=>l.length-(RowKit.intOf x).toNat)
  case atStart=>exact ⟨0,Nat.zero_le _,rfl,by simp,0,rfl⟩
  case round =>
   obtain ⟨i,hi,rfl,ht,n,rfl⟩:=hrel
   by_cases hlt:i<l.length
   ·have hlk:i<k.length:=by omega
    obtain ⟨ba,oa,rfl,_,c0⟩:=Strs.get Hv.out hlt
    obtain ⟨bb,ob,rfl,_,d0⟩:=Strs.get Hu.out hlk
    have Hs:=hid (ssame_take ht hlt hlk)
    have Hn:=hid (@ssame_not l k i)
    have hlt' : (i:Int)<(l.length:Int):=by omega
    have hlk' : (i:Int)<(k.length:Int):=by omega
    clear ht
    generalize l.getD i []=x at *
    generalize k.getD i []=y at *
    by_cases hxy:x=y
    ·subst hxy
     have Hs':=hid (Hs.out rfl)
     clear Hs Hn
     generalize bs x=X at *
     have e1:(X.toList != X.toList)=false:=by simp
     go_wp2_with fail
     go_quiet (fail)
     go_wp2
     go_roundw
     case rel=>exact ⟨i+1,by omega,by go_num,Hs'.out,_,rfl⟩
     case measure=>simp [RowKit.intOf];omega
    ·have Hf:=hid (Hn.out hxy)
     have hb:((bs x).toList != (bs y).toList)=true:=by rw [bs_list2,bs_list2];simpa using hxy
     have hb2:((bs x).toList == (bs y).toList)=false:=by rw [bs_list2,bs_list2];simpa using hxy
     have hb3:((bs x).toList=(bs y).toList)=False:=by rw [bs_list2,bs_list2];simpa using hxy
     generalize bs x=X at *
     generalize bs y=Y at *
     clear hxy Hs Hn
     go_wp2_with fail
     go_quiet (fail)
     go_wp2
     go_ret
     exact ⟨ret_bool Hf.out.symm,(pdN _ n).then_ (pdN _ _)⟩
   ·have e:i=l.length:=by omega
    subst e
    have hlt' : ¬(l.length:Int)<(l.length:Int):=by omega
    have Hf:=hid (ssame_full Hl.out ht)
    clear ht
    go_wp2
    go_ret
    exact ⟨ret_bool Hf.out.symm,pdN _ _⟩
 ·have Hf:=hid (ssame_short hl)
  have hne:((l.length:Int) != (k.length:Int))=true:=by simp;omega
  go_enter Tryz.func32,Tryz.ntmps32
  clear hl
  go_wp2
  go_ret
  exact ⟨ret_bool Hf.out.symm,Below.refl _ _⟩
end
end Go.Proofs.YtdlpnhfgjficgaaGreat
