import Derived.Test.YtdlpnhfgjficgaaGreatAP
namespace Go.Proofs.YtdlpnhfgjficgaaGreat
section
set_option maxHeartbeats 8000000
set_option maxRecDepth 8000
open Go.RowKit Go.Maps Go.Shelf Go.Sort
theorem rbchk_any (v0 v1 v2:Value) (g:Bag) (w:World) (hr:BR3 v0 v1 v2 g w) (hl0:g.1.length≤100000) (hl1:g.2.1.length≤100000) (hl2:g.2.2.length≤100000) :
 Calls Tryz.prog 114 #[.agg #[v0,v1,v2]] w fun e w'=>e=.returned (.int .i64 (er1 (bchk g)))∧Pure w w':=by
 obtain ⟨a0,c0,rfl⟩:=hr.1.shape
 obtain ⟨a1,c1,rfl⟩:=hr.2.1.shape
 obtain ⟨a2,c2,rfl⟩:=hr.2.2.shape
 obtain ⟨V,hV⟩:=qe (bchk g)
 rw [←hV]
 have hVe:=qh (V=(cchk g.2.1 g.2.2 && allB g.1.length (bat g))) (hV)
 clear hV
 obtain ⟨wz,hwz⟩:=qe (w.alloc (.cells #[.slice a0 g.1.length c0,.slice a1 g.2.1.length c1,.slice a2 g.2.2.length c2] 34))
 have Hpz:=qh (Pure w wz) (by rw [hwz];exact qp)
 have HX:=qh (BX w.heap.size (.slice a0 g.1.length c0) (.slice a1 g.2.1.length c1) (.slice a2 g.2.2.length c2) g wz) (by rw [hwz];exact BX.made hr)
 have HC:=hid (fun W (hW:Pure wz W)=>(HX.out.pure hW).cells)
 have HR:=hid (fun W (hW:Pure wz W)=>(HX.out.pure hW).r)
 have hck:=hid (fun W (hW:Pure wz W)=>rcchk_any _ _ g.2.1 g.2.2 W (HR.out W hW).2.1 (HR.out W hW).2.2 hl1 hl2)
 have hmay:=hid (fun m W=>rmay_any m W)
 have hhas:=hid (fun d W (hW:Pure wz W)=>rchas_any _ _ g.2.1 g.2.2 d W (HR.out W hW).2.1 (HR.out W hW).2.2)
 have hles:=hid (fun d e W=>rless_any d e W)
 unfold dv at hhas hles
 unfold mv at hmay
 have k1:=(HC.out wz (Below.refl _ _)).2.1
 have k2:=(HC.out wz (Below.refl _ _)).2.2
 rw [hwz] at k1 k2
 unfold er1 at hck
 generalize cchk g.2.1 g.2.2=V1 at *
 clear hr hl1 hl2
 go_enter Tryz.func114,Tryz.ntmps114
 go_wp2_with fail
 rw [←hwz]
 clear hwz k1 k2
 refine (hck.out _ (Below.refl _ _)).mono ?_
 rintro e w1 ⟨rfl,hp1⟩
 have Hp1:=hid hp1
 clear hp1
 cases V1 with
 | false =>
   have HF:=qh (V=false) (hVe.out)
   go_wp2
   go_ret
   exact ⟨by rw [HF.out];rfl,Hpz.out.then_ Hp1.out⟩
 | true =>
   have HF0:=hid (fun k (hk:k<g.1.length) (h:bat g k=false)=>(show V=false from by rw [hVe.out,allB_false hk h];rfl))
   have HT:=hid (fun (h1:allB g.1.length (bat g)=true)=>(show V=true from by rw [hVe.out,h1];rfl))
   clear hVe
   go_wp2
   go_loopw [3] (fun i wr=>∃k:Nat,k≤g.1.length∧i=.int .i64 k∧allB k (bat g)=true∧Pure wz wr) (fun i _=>g.1.length-(RowKit.intOf i).toNat)
   case atStart=>exact ⟨0,Nat.zero_le _,rfl,rfl,Hp1.out⟩
   case round =>
    obtain ⟨k,hk,rfl,hal,hp⟩:=hrel
    have Hal:=hid hal
    have Hp:=hid hp
    clear hal
    obtain ⟨k0,k1,k2⟩:=HC.out wr hp
    by_cases hlt:k<g.1.length
    ·have hlt' : (k:Int)<(g.1.length:Int):=by omega
     obtain ⟨b,off,rfl,hb,x0,x1,x2,x3,x4⟩:=Msgs.get (HR.out wr hp).1 hlt
     have Hno:=hid (HF0.out k hlt)
     have Hyes:=hid (fun (e:bat g k=true)=>allB_next Hal.out e)
     have Hbat:=qh (bat g k=(mmay (g.1.getD k m0) && chas g.2.1 g.2.2 (g.1.getD k m0).1 && (decide (k=0) || dlt (g.1.getD (k-1) m0).1 (g.1.getD k m0).1))) (rfl)
     have hprev:=hid (fun W (hW:Pure wz W) (h0:0<k)=>(show W.cell? ⟨b,off+(k-1)*5,none⟩=some (.int .i64 (g.1.getD (k-1) m0).1.1)∧W.cell? ⟨b,off+(k-1)*5+1,none⟩=some (.int .i64 (g.1.getD (k-1) m0).1.2) from by
      obtain ⟨b',off',e',_,y0,y1,_⟩:=Msgs.get (HR.out W hW).1 (show k-1<g.1.length by omega)
      cases e';exact ⟨y0,y1⟩))
     have hmay2:=hid (fun W=>hmay.out (g.1.getD k m0) W)
     have hhas2:=hid (fun W (hW:Pure wz W)=>hhas.out (g.1.getD k m0).1 W hW)
     have hless:=hid (fun W=>hles.out (g.1.getD (k-1) m0).1 (g.1.getD k m0).1 W)
     generalize g.1.getD (k-1) m0=y at *
     generalize g.1.getD k m0=z at *
     obtain ⟨⟨z1,z2⟩,zq,zb,zc⟩:=z
     obtain ⟨⟨y1,y2⟩,yq,yb,yc⟩:=y
     dsimp only at x0 x1 x2 x3 x4 Hbat hmay2 hhas2 hprev hless
     generalize mmay ((z1,z2),zq,zb,zc)=D1 at *
     generalize chas g.2.1 g.2.2 (z1,z2)=D2 at *
     generalize dlt (y1,y2) (z1,z2)=D3 at *
     obtain ⟨Wd,hWd⟩:=qe (wr.alloc (.cells #[.int .i64 z1,.int .i64 z2,.string (bs zq),.string (bs zb),.int .i64 zc] 43))
     have Hpd:=qh (Pure wr Wd) (by rw [hWd];exact qp)
     have Hbd:=qh (MB wr.heap.size z1 z2 zq zb zc Wd) (by rw [hWd];exact ban _ _)
     clear hp hb
     go_upto_region 7 with fail
     rw [←hWd]
     clear hWd x0 x1 x2 x3 x4 k0 k1 k2
     generalize wr.heap.size=m at *
     have Hpw:=hid (Hp.out.then_ Hpd.out)
     obtain ⟨g0,g1,g2,g3,g4,-⟩:=Hbd.out.cells
     go_wp2_with fail
     refine (hmay2.out _).mono ?_
     rintro e w4 ⟨rfl,hp4⟩
     have Hp4:=hid (Hpw.out.then_ hp4)
     have Hb4:=qh (MB m z1 z2 zq zb zc w4) ((hp4.block _ (lob Hbd.out)).trans Hbd.out)
     clear hp4 g0 g1 g2 g3 g4
     obtain ⟨g0,g1,g2,g3,g4,-⟩:=Hb4.out.cells
     obtain ⟨k0,k1,k2⟩:=HC.out w4 Hp4.out
     go_wp2_with fail
     refine (hhas2.out _ Hp4.out).mono ?_
     rintro e w5 ⟨rfl,hp5⟩
     have Hp5:=hid (Hp4.out.then_ hp5)
     have Hb5:=qh (MB m z1 z2 zq zb zc w5) ((hp5.block _ (lob Hb4.out)).trans Hb4.out)
     clear hp5 g0 g1 g2 g3 g4 k0 k1 k2
     cases D1 with
     | false =>
       have HF:=hid (Hno.out (by rw [Hbat.out];rfl))
       clear Hyes Hno Hbat hprev
       go_wp2
       go_ret
       exact ⟨by rw [HF.out];rfl,Hpz.out.then_ Hp5.out⟩
     | true =>
       cases D2 with
       | false =>
         have HF:=hid (Hno.out (by rw [Hbat.out];rfl))
         clear Hyes Hno Hbat hprev
         go_wp2
         go_ret
         exact ⟨by rw [HF.out];rfl,Hpz.out.then_ Hp5.out⟩
       | true =>
         by_cases h0:k=0
         ·subst h0
          have HT':=hid (Hyes.out (by rw [Hbat.out];rfl))
          have hd:decide ((0:Int)<((0:Nat):Int))=false:=by decide
          have hd2:decide (((0:Nat):Int) > 0)=false:=by decide
          clear Hyes Hno Hbat hprev
          go_wp2_with fail
          go_quiet (fail)
          go_wp2
          go_roundw
          case rel=>exact ⟨0+1,by omega,by go_num,HT'.out,Hp5.out.then_ (pdN _ _)⟩
          case measure=>simp [RowKit.intOf];omega
         ·have hd:decide ((0:Int)<(k:Int))=true:=by simp;omega
          have hd2:decide ((k:Int) > 0)=true:=by simp;omega
          have hd3:decide (0<k)=true:=decide_eq_true oe
          have hsub:IntKind.i64.wrap ((k:Int)-1)=((k-1:Nat):Int):=by rw [IntWalk.i64_in _ oe];omega
          have hsub2:(k:Int)-1=((k-1:Nat):Int):=by omega
          have hlt2:((k-1:Nat):Int)<(g.1.length:Int):=by omega
          have hn:(0:Int)≤((k-1:Nat):Int):=by omega
          have HT':=hid (fun (e:D3=true)=>Hyes.out (by rw [Hbat.out,e,Bool.or_true];rfl))
          have HF':=hid (fun (e:D3=false)=>Hno.out (by rw [Hbat.out,e,decide_eq_false h0];rfl))
          have hS:Hid (∀W,Pure w5 W→(W.cell? ⟨w.heap.size,0,none⟩=some (.slice (some ⟨b,off,none⟩) g.1.length c0)∧W.cell? ⟨b,off+(k-1)*5,none⟩=some (.int .i64 y1)∧W.cell? ⟨b,off+(k-1)*5+1,none⟩=some (.int .i64 y2)∧W.cell? ⟨m,0,none⟩=some (.int .i64 z1)∧W.cell? ⟨m,1,none⟩=some (.int .i64 z2)∧Pure w5 W)):=fun W hW=>by
           obtain ⟨j0,-,-⟩:=HC.out W (Hp5.out.then_ hW)
           obtain ⟨y0,y1⟩:=hprev.out W (Hp5.out.then_ hW) oe
           have e:=(hW.block _ (lob Hb5.out)).trans Hb5.out
           exact ⟨j0,y0,y1,cob e 0,cob e 1,hW⟩
          have hst:=hid (hS.out w5.drew qv)
          have hS2:Hid (∀W:World,(W.cell? ⟨w.heap.size,0,none⟩=some (.slice (some ⟨b,off,none⟩) g.1.length c0)∧W.cell? ⟨b,off+(k-1)*5,none⟩=some (.int .i64 y1)∧W.cell? ⟨b,off+(k-1)*5+1,none⟩=some (.int .i64 y2)∧W.cell? ⟨m,0,none⟩=some (.int .i64 z1)∧W.cell? ⟨m,1,none⟩=some (.int .i64 z2)∧Pure w5 W)→Pure w5 W):=fun W h=>h.2.2.2.2.2
          clear Hyes Hno Hbat hprev
          generalize hj:k-1=j at *
          have hwm:IntKind.i64.wrap (j:Int)=(j:Int):=IntWalk.i64_in _ oe
          cases D3
          case' false=>have HQ:=hid (HF'.out rfl)
          case' true=>have HQ:=hid (HT'.out rfl)
          all_goals
           clear HT' HF'
           go_wp2_with fail
           refine wp_region_held_drew (S:=(fun W=>W.cell? ⟨w.heap.size,0,none⟩=some (.slice (some ⟨b,off,none⟩) g.1.length c0)∧W.cell? ⟨b,off+j*5,none⟩=some (.int .i64 y1)∧W.cell? ⟨b,off+j*5+1,none⟩=some (.int .i64 y2)∧W.cell? ⟨m,0,none⟩=some (.int .i64 z1)∧W.cell? ⟨m,1,none⟩=some (.int .i64 z2)∧Pure w5 W)) qk ?_ (fun hHeld=>?_)
           ·first|assumption|with_reducible exact hst.out|with_reducible exact hS.out _ (Pure.then_ (hS2.out _ qa) hp7)
           refine tkA 0 ?_
           refine tkA 1 ?_
           refine tkA 2 ?_
           refine tkA 3 ?_
           refine tkA 4 ?_
           refine tkA 5 ?_
           refine tkA 6 ?_
           refine tkA 7 ?_
           refine tkA 8 ?_
           refine tkA 9 ?_
           refine tkA 10 ?_
           refine tkA 11 ?_
           refine tkC 12 fun K hK=>?_
           go_simp
           go_at_call 163;(with_reducible refine (hless.out _).mono ?_);rintro e w7 ⟨rfl,hp7⟩
           refine hK.out _ _ (by first|assumption|with_reducible exact hst.out|with_reducible exact hS.out _ (Pure.then_ (hS2.out _ qa) hp7)) fun hHeld=>?_
           clear hK K
           refine tkA 13 ?_
           refine tkA 14 ?_
           refine wpAnyH_done qk ?_ _
           have hx:=hid (hS2.out _ qa)
          ·go_wp2
           go_roundw
           case rel=>exact ⟨k+1,by omega,by go_num,HQ.out,Hp5.out.then_ hx.out⟩
           case measure=>simp [RowKit.intOf];omega
          ·go_wp2
           go_ret
           exact ⟨by rw [HQ.out];rfl,Hpz.out.then_ (Hp5.out.then_ hx.out)⟩
    ·have hlt' : ¬(k:Int)<(g.1.length:Int):=by omega
     obtain rfl:k=g.1.length:=by omega
     have HT':=hid (HT.out Hal.out)
     clear hp
     go_wp2
     go_ret
     exact ⟨by rw [HT'.out];rfl,Hpz.out.then_ Hp.out⟩
end
section
set_option maxHeartbeats 8000000
set_option maxRecDepth 8000
open Go.RowKit Go.Maps Go.Shelf
theorem SAt.at2 {n:Nat} {a u:Int} {r:List Value} {w:World} (h:SAt n a u r w) {j j' : Nat} {v:Value} (hv:r[j]?=some v) (e:j'=j+2):w.cell? ⟨n,j',none⟩=some v∧w.frozen? ⟨n,j',none⟩=false:=by
 subst e;exact h.at hv
theorem SAt.set2 {n:Nat} {a u:Int} {r:List Value} {w:World} (h:SAt n a u r w) (j:Nat) {j' : Nat} (e:j'=j+2) (v:Value):SAt n a u (r.set j v) (w.setCell ⟨n,j',none⟩ v):=by
 subst e;exact h.set j v
theorem set3_getD {b:List Bag} {p q:Nat} {g:Bag} (hb:b.length=16) (hp:p<16):(b.set p g).getD q nb=if q=p then g else b.getD q nb:=by
 rw [List.getD_eq_getElem?_getD,List.getD_eq_getElem?_getD]
 by_cases h:q=p
 ·subst h;rw [if_pos rfl,List.getElem?_set_self oe];rfl
 ·rw [if_neg h,List.getElem?_set_ne (fun e=>h e.symm)]
theorem SRows.setBag {n:Nat} {r:List Value} {S:SD} {w:World} {p:Nat} {v0 v1 v2:Value} {g:Bag} (h:SRows n r S w) (hp:p<16) (hb:S.bags.length=16) (hv:BR3 v0 v1 v2 g w) (f0:∀k,v0.rb=some k→k≠n) (f1:∀k,v1.rb=some k→k≠n) (f2:∀k,v2.rb=some k→k≠n) :
 SRows n (((r.set (p*3) v0).set (p*3+1) v1).set (p*3+2) v2) { S with bags:=S.bags.set p g } w:=by
 have hl:=h.len
 have hne:∀j,j≠p*3→j≠p*3+1→j≠p*3+2→(((r.set (p*3) v0).set (p*3+1) v1).set (p*3+2) v2)[j]?=r[j]?:=fun j h0 h1 h2=>by
  rw [List.getElem?_set_ne (fun e=>h2 e.symm),List.getElem?_set_ne (fun e=>h1 e.symm),List.getElem?_set_ne (fun e=>h0 e.symm)]
 refine ⟨by simpa using hl,fun q hq=>?_,?_,?_,?_⟩
 ·show ∃u0 u1 u2,_∧_∧_∧BR3 u0 u1 u2 ((S.bags.set p g).getD q nb) w∧_
  rw [set3_getD hb hp]
  by_cases e:q=p
  ·subst e
   rw [if_pos rfl]
   refine ⟨v0,v1,v2,?_,?_,?_,hv,f0,f1,f2⟩
   ·rw [List.getElem?_set_ne oe,List.getElem?_set_ne oe,List.getElem?_set_self oe]
   ·rw [List.getElem?_set_ne oe,List.getElem?_set_self qc]
   ·rw [List.getElem?_set_self qc]
  ·rw [if_neg e,hne _ oe oe oe,hne _ oe oe oe,hne _ oe oe oe]
   exact h.bag q hq
 ·rw [hne _ oe oe oe];exact h.tags
 ·rw [hne _ oe oe oe];exact h.view
 ·rw [hne _ oe oe oe];exact h.holds
structure RdB (n b p1 p2 q:Nat) (k:Nat) (v0 v1 v2:Value) (g:Bag) (s:RS) (w0 w:World):Prop where
 b1:w.heap[p1]?=some (.cells #[.int .i64 (k:Nat)] 3 (0,0))
 b2:w.heap[p2]?=some (.cells #[v0,v1,v2] 34 (0,0))
 bq:w.heap[q]?=some (.cells #[.pointer (some ⟨n,0,none⟩)] 24 (0,0))
 r:RdAt 117 b s w
 k:Kept (fun k=>k=b) w0 w
 row:BR3 v0 v1 v2 g w
 fr:BFr w0.heap.size v0 v1 v2
 pf:w0.heap.size≤p1
 pf2:w0.heap.size≤p2
 qf:w0.heap.size≤q
theorem RdB.pure {n b p1 p2 q k:Nat} {v0 v1 v2:Value} {g:Bag} {s:RS} {w0 w w' : World} (h:RdB n b p1 p2 q k v0 v1 v2 g s w0 w) (hp:Pure w w'):RdB n b p1 p2 q k v0 v1 v2 g s w0 w' :=
 ⟨(hp.block _ (lob h.b1)).trans h.b1,(hp.block _ (lob h.b2)).trans h.b2,(hp.block _ (lob h.bq)).trans h.bq,h.r.pure hp,h.k.trans hp.kept,h.row.pure hp,h.fr,h.pf,h.pf2,h.qf⟩
def rdJ (l:List UInt8):Nat × Bag × RS:=((rdInt 15 (some l)).1.toNat,rdBag (rdInt 15 (some l)).2)
theorem sread_B (n b:Nat) (l:List UInt8) (w:World) (h:RdAt 117 b (some l) w) :
 Calls Tryz.prog 45 #[.pointer (some ⟨n,0,none⟩),.string ⟨#[66]⟩,.pointer (some ⟨b,0,none⟩)] w fun e w'=>∃p1 p2 q v0 v1 v2,e=.returned (.func (.func 90) #[] #[.pointer (some ⟨q,0,none⟩),.pointer (some ⟨p1,0,none⟩),.pointer (some ⟨p2,0,none⟩)])∧RdB n b p1 p2 q (rdJ l).1 v0 v1 v2 (rdJ l).2.1 (rdJ l).2.2 w w':=by
 have hlt:=h.lt
 obtain ⟨W1,hW1⟩:=qe (w.alloc (.cells #[.pointer (some ⟨n,0,none⟩)] 24))
 have P1:=qh (Pure w W1) (by rw [hW1];exact qp)
 have Q1:=qh (W1.heap[w.heap.size]?=some (.cells #[.pointer (some ⟨n,0,none⟩)] 24 (0,0))) (by rw [hW1];exact ban _ _)
 have hi:=hid (mintr_any b (some l) 15 W1 (h.pure P1.out) oe oe)
 unfold RdP at hi
 have hmf:∀(fn:Fn) (first cap:Array Value) (w:World),(Instr.makeFunc fn first cap).run Tryz.prog w=.ok (.func fn first cap) w:=fun _ _ _ _=>rfl
 have Hlt:=hid hlt
 unfold rdJ
 have Hbd:=hid (rdInt_bd 15 (some l))
 clear h hlt
 generalize rdInt 15 (some l)=R at *
 obtain ⟨k,s1⟩:=R
 dsimp only at hi Hbd ⊢
 obtain ⟨k,rfl⟩ : ∃k' : Nat,k=(k' : Int):=⟨k.toNat,by have:=Hbd.out.1;omega⟩
 rw [Int.toNat_natCast]
 have hrb:=hid (fun W (hW:RdAt 117 b s1 W)=>bread_any b s1 W hW)
 unfold RdBagP at hrb
 generalize rdBag s1=R2 at *
 obtain ⟨g,s2⟩:=R2
 dsimp only at hrb ⊢
 go_enter Tryz.func45,Tryz.ntmps45
 go_wp2_with fail
 rw [←hW1]
 clear hW1
 refine hi.out.mono ?_
 rintro e w2 ⟨rfl,hr2,hk2⟩
 have hpa:∀o,Pure w2 (w2.alloc o):=fun o=>(Below.refl _ _).alloc (Nat.le_refl _) o
 have Hr2:=hid (hr2.pure (hpa (.cells #[.int .i64 (k:Nat)] 3)))
 have Hpa:=hid hpa
 have Hk2:=hid hk2
 clear hr2 hk2 hi hpa
 go_wp2_with fail
 refine (hrb.out _ Hr2.out).mono ?_
 rintro e w3 ⟨v0,v1,v2,rfl,hrow,hfr,hr3,hk3⟩
 obtain ⟨a0,c0,rfl⟩:=hrow.1.shape
 obtain ⟨a1,c1,rfl⟩:=hrow.2.1.shape
 obtain ⟨a2,c2,rfl⟩:=hrow.2.2.shape
 have Hrow:=hid hrow
 have Hfr:=hid hfr
 have Hr3:=hid hr3
 have Hk3:=hid hk3
 clear hrow hfr hr3 hk3 hrb
 go_wp2
 go_ret
 have hs1:=P1.out.size
 have hs2:=Hk2.out.size
 have hs3:=Hk3.out.size
 have hb:=Hlt.out
 rw [World.size_alloc] at hs3
 have hq2:w2.heap[w.heap.size]?=some (.cells #[.pointer (some ⟨n,0,none⟩)] 24 (0,0)):=(Hk2.out.block _ (lob Q1.out) oe).trans Q1.out
 have hq3:=(Hk3.out.block _ (lob (bao hq2 _)) oe).trans (bao hq2 (.cells #[.int .i64 (k:Nat)] 3))
 have hn2:=ban w2 (.cells #[.int .i64 (k:Nat)] 3)
 have hn3:=(Hk3.out.block _ (lob hn2) oe).trans hn2
 have hpa:∀o,Pure w3 (w3.alloc o):=fun o=>(Below.refl _ _).alloc (Nat.le_refl _) o
 exact ⟨_,_,_,_,_,_,rfl,⟨bao hn3 _,ban _ _,bao hq3 _,Hr3.out.pure (hpa _),(((P1.out.kept.trans Hk2.out).alloc _).trans Hk3.out).alloc _,Hrow.out.pure (hpa _),Hfr.out.mono (by rw [World.size_alloc];omega),by omega,by omega,Nat.le_refl _⟩⟩
theorem sclos_B (n m b p1 p2 q k:Nat) (v0 v1 v2:Value) (S:SD) (h:Bag) (s:RS) (w0 w:World) (hSt:St2 n m S w) (hR0:RdB n b p1 p2 q k v0 v1 v2 h s w0 w) (hn0:n<w0.heap.size) (hm0:m<w0.heap.size) (hk:k<16) (hb:S.bags.length=16) (hg:BV (S.bags.getD k nb)) (hh:BV h)
 (hll:(S.bags.getD k nb).1.length+h.1.length≤3000) (hlc:(S.bags.getD k nb).2.1.length+(S.bags.getD k nb).2.2.length+(h.2.1.length+h.2.2.length)≤3000) :
 Calls Tryz.prog 90 #[.pointer (some ⟨q,0,none⟩),.pointer (some ⟨p1,0,none⟩),.pointer (some ⟨p2,0,none⟩)] w fun e w'=>e=.returned (.tuple #[])∧St2 n m { S with bags:=S.bags.set k (bjoin (S.bags.getD k nb) h) } w'∧Kept (fun k=>k=n) w w':=by
 have hnl:=hSt.lt
 obtain ⟨r,hA,hR,hM⟩:=hSt
 obtain ⟨u0,u1,u2,e0,e1,e2,hgr,g0,g1,g2⟩:=hR.bag k hk
 have hj:=hid (fun W (hW:Pure w W)=>sjoin_any _ _ _ _ _ _ _ _ W (hgr.pure hW) (hR0.row.pure hW) hg hh hll hlc)
 obtain ⟨x0,y0,rfl⟩:=hgr.1.shape
 obtain ⟨x1,y1,rfl⟩:=hgr.2.1.shape
 obtain ⟨x2,y2,rfl⟩:=hgr.2.2.shape
 obtain ⟨a0,c0,rfl⟩:=hR0.row.1.shape
 obtain ⟨a1,c1,rfl⟩:=hR0.row.2.1.shape
 obtain ⟨a2,c2,rfl⟩:=hR0.row.2.2.shape
 unfold BagO at hj
 have hS:=hid (fun W (hW:Pure w W)=>(show W.cell? ⟨q,0,none⟩=some (.pointer (some ⟨n,0,none⟩))∧W.cell? ⟨p1,0,none⟩=some (.int .i64 (k:Nat))∧W.cell? ⟨p2,0,none⟩=some (.slice a0 h.1.length c0)∧W.cell? ⟨p2,1,none⟩=some (.slice a1 h.2.1.length c1)∧W.cell? ⟨p2,2,none⟩=some (.slice a2 h.2.2.length c2) from
  ⟨cob ((hW.block _ (lob hR0.bq)).trans hR0.bq) 0,cob ((hW.block _ (lob hR0.b1)).trans hR0.b1) 0,cob ((hW.block _ (lob hR0.b2)).trans hR0.b2) 0,cob ((hW.block _ (lob hR0.b2)).trans hR0.b2) 1,cob ((hW.block _ (lob hR0.b2)).trans hR0.b2) 2⟩))
 have hot:∀(W:World) (x y z:Value) (j:Nat) (o:Obj),w0.heap.size≤j→W.heap[j]?=some o→(((W.setCell ⟨n,2+k*3,none⟩ x).setCell ⟨n,2+k*3+1,none⟩ y).setCell ⟨n,2+k*3+2,none⟩ z).heap[j]?=some o:=fun W x y z j o hj h1 =>
  bso (bso (bso h1 _ (by show n≠j;omega) _) _ (by show n≠j;omega) _) _ (by show n≠j;omega) _
 have hS2:=hid (fun W (x y z:Value) (hW:Pure w W)=>(show ((((W.setCell ⟨n,2+k*3,none⟩ x).setCell ⟨n,2+k*3+1,none⟩ y).setCell ⟨n,2+k*3+2,none⟩ z)).cell? ⟨q,0,none⟩=some (.pointer (some ⟨n,0,none⟩))∧((((W.setCell ⟨n,2+k*3,none⟩ x).setCell ⟨n,2+k*3+1,none⟩ y).setCell ⟨n,2+k*3+2,none⟩ z)).cell? ⟨p1,0,none⟩=some (.int .i64 (k:Nat))∧((((W.setCell ⟨n,2+k*3,none⟩ x).setCell ⟨n,2+k*3+1,none⟩ y).setCell ⟨n,2+k*3+2,none⟩ z)).cell? ⟨p2,0,none⟩=some (.slice a0 h.1.length c0)∧((((W.setCell ⟨n,2+k*3,none⟩ x).setCell ⟨n,2+k*3+1,none⟩ y).setCell ⟨n,2+k*3+2,none⟩ z)).cell? ⟨p2,1,none⟩=some (.slice a1 h.2.1.length c1)∧((((W.setCell ⟨n,2+k*3,none⟩ x).setCell ⟨n,2+k*3+1,none⟩ y).setCell ⟨n,2+k*3+2,none⟩ z)).cell? ⟨p2,2,none⟩=some (.slice a2 h.2.2.length c2) from
  ⟨cob (hot W x y z q _ hR0.qf ((hW.block _ (lob hR0.bq)).trans hR0.bq)) 0,cob (hot W x y z p1 _ hR0.pf ((hW.block _ (lob hR0.b1)).trans hR0.b1)) 0,cob (hot W x y z p2 _ hR0.pf2 ((hW.block _ (lob hR0.b2)).trans hR0.b2)) 0,cob (hot W x y z p2 _ hR0.pf2 ((hW.block _ (lob hR0.b2)).trans hR0.b2)) 1,cob (hot W x y z p2 _ hR0.pf2 ((hW.block _ (lob hR0.b2)).trans hR0.b2)) 2⟩))
 have hcs:=hid (fun W (hW:Pure w W)=>And.intro ((hA.pure hW).at2 (j':=2+k*3) e0 oe) (And.intro ((hA.pure hW).at2 (j':=2+k*3+1) e1 oe) ((hA.pure hW).at2 (j':=2+k*3+2) e2 oe)))
 have HR:=hid hR
 have HM:=hid hM
 have Hnl:=hid hnl
 have Hml:=qh (m<w.heap.size) (Nat.lt_of_lt_of_le hm0 hR0.k.size)
 have hkk:(k:Int)<16:=by omega
 have hk0:(0:Int)≤(k:Int):=by omega
 have Hhb:=hid hb
 generalize hJ:bjoin (S.bags.getD k nb) h=J at *
 generalize S.bags.getD k nb=g at *
 clear hJ hgr g0 g1 g2 hR hn0 hm0 hM hot hR0 hb hg hh hll hlc
 go_enter Tryz.func90,Tryz.ntmps90
 go_wp2_with fail
 refine wp_region_held_drew (S:=(fun W=>W.cell? ⟨q,0,none⟩=some (.pointer (some ⟨n,0,none⟩))∧W.cell? ⟨p1,0,none⟩=some (.int .i64 (k:Nat))∧W.cell? ⟨p2,0,none⟩=some (.slice a0 h.1.length c0)∧W.cell? ⟨p2,1,none⟩=some (.slice a1 h.2.1.length c1)∧W.cell? ⟨p2,2,none⟩=some (.slice a2 h.2.2.length c2))) qk ?_ (fun hHeld=>?_)
 ·exact hS.out _ qv
 obtain ⟨y0,hy0⟩:=qe (w.drew)
 have Q0:=qh (Pure w y0) (by rw [hy0];exact qv)
 rw [←hy0] at hHeld ⊢
 clear hy0
 obtain ⟨⟨d0,f0⟩,⟨d1,f1⟩,⟨d2,f2⟩⟩:=hcs.out _ Q0.out
 refine tkA 0 ?_
 refine tkA 1 ?_
 refine tkA 2 ?_
 refine tkA 3 ?_
 refine tkA 4 ?_
 refine tkA 5 ?_
 refine tkA 6 ?_
 refine tkA 8 ?_
 refine tkA 10 ?_
 refine tkA 11 ?_
 refine tkC 7 fun K hK=>?_
 go_simp
 refine hK.out _ _ (by exact hS.out _ Q0.out) fun hHeld=>?_
 clear hK K
 refine tkC 9 fun K hK=>?_
 go_simp
 go_at_call 91;refine (hj.out _ Q0.out).mono ?_;rintro e y2 ⟨v7,v8,v9,rfl,hrow,hp,hf⟩;have Q2:=hid (Q0.out.then_ hp);obtain ⟨a7,c7,rfl⟩:=hrow.1.shape;obtain ⟨a8,c8,rfl⟩:=hrow.2.1.shape;obtain ⟨a9,c9,rfl⟩:=hrow.2.2.shape
 refine hK.out _ _ (by exact hS.out _ Q2.out) fun hHeld=>?_
 clear hK K
 have Hrow:=hid hrow
 have Hf:=hid (hf.mono Q0.out.size)
 clear hrow hf d0 d1 d2 f0 f1 f2 hp
 obtain ⟨⟨d0,f0⟩,⟨d1,f1⟩,⟨d2,f2⟩⟩:=hcs.out _ Q2.out
 refine tkA 12 ?_
 refine tkC 13 fun K hK=>?_
 go_simp
 refine hK.out undef _ (by exact hS2.out _ _ _ _ Q2.out) fun hHeld=>?_
 clear hK K
 clear d0 d1 d2 f0 f1 f2
 refine wpAnyH_done qk ?_ _
 go_wp2
 go_end0
 have hk1:Kept (fun k=>k=n) y2 (((y2.setCell ⟨n,2+k*3,none⟩ (.slice a7 J.1.length c7)).setCell ⟨n,2+k*3+1,none⟩ (.slice a8 J.2.1.length c8)).setCell ⟨n,2+k*3+2,none⟩ (.slice a9 J.2.2.length c9)):=Kept.setCell (S:=fun k=>k=n) (Kept.setCell (S:=fun k=>k=n) (Kept.setCell (S:=fun k=>k=n) (Kept.refl _ _) (p:=⟨n,2+k*3,none⟩) (fun _=>rfl) _) (p:=⟨n,2+k*3+1,none⟩) (fun _=>rfl) _) (p:=⟨n,2+k*3+2,none⟩) (fun _=>rfl) _
 have hf0:=fun j hj=>Nat.lt_of_lt_of_le Hnl.out (Hf.out.1 j hj)
 have hf1:=fun j hj=>Nat.lt_of_lt_of_le Hnl.out (Hf.out.2.1 j hj)
 have hf2:=fun j hj=>Nat.lt_of_lt_of_le Hnl.out (Hf.out.2.2 j hj)
 have hm0:=fun j hj=>Nat.lt_of_lt_of_le Hml.out (Hf.out.1 j hj)
 have hm1:=fun j hj=>Nat.lt_of_lt_of_le Hml.out (Hf.out.2.1 j hj)
 have hm2:=fun j hj=>Nat.lt_of_lt_of_le Hml.out (Hf.out.2.2 j hj)
 have hbr:=Hrow.out.kept hk1 (fun j hj e=>by have:=hf0 j hj;omega) (fun j hj e=>by have:=hf1 j hj;omega) (fun j hj e=>by have:=hf2 j hj;omega)
 exact ⟨rfl,⟨_,(((hA.pure Q2.out).set2 (k*3) oe _).set2 (k*3+1) oe _).set2 (k*3+2) oe _,((HR.out.pure Q2.out).kept hk1).setBag hk Hhb.out hbr (fun j hj e=>by have:=hf0 j hj;omega) (fun j hj e=>by have:=hf1 j hj;omega) (fun j hj e=>by have:=hf2 j hj;omega),((HM.out.pure Q2.out).kept2 (HR.out.pure Q2.out) hk1).setBag hk Hhb.out hbr (fun j hj e=>by have:=hm0 j hj;omega) (fun j hj e=>by have:=hm1 j hj;omega) (fun j hj e=>by have:=hm2 j hj;omega)⟩,(Pure.kept Q2.out).trans hk1⟩
end
end Go.Proofs.YtdlpnhfgjficgaaGreat
