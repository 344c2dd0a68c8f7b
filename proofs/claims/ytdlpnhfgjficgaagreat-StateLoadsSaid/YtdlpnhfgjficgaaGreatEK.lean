import Derived.Test.YtdlpnhfgjficgaaGreatEJ
set_option maxHeartbeats 8000000
set_option maxRecDepth 8000
namespace Go.Proofs.YtdlpnhfgjficgaaGreat
open Go.RowKit Go.Maps Go.Shelf
theorem rapply_B (n m:Nat) (S:SD) (l:List UInt8) (w:World) (h:RSt2 n m S w) (hm:m<w.heap.size) (hb:S.bags.length=16) (hg:BV (S.bags.getD (rdJ l).1 nb)) (hh:BV (rdJ l).2.1) (hll:(S.bags.getD (rdJ l).1 nb).1.length+(rdJ l).2.1.1.length≤3000) (hlc:(S.bags.getD (rdJ l).1 nb).2.1.length+(S.bags.getD (rdJ l).1 nb).2.2.length+((rdJ l).2.1.2.1.length+(rdJ l).2.1.2.2.length)≤3000) :
 Calls Tryz.prog 18 #[.pointer (some ⟨n,0,none⟩),.string (bs (66::l))] w (RApP n m (apB S l).1 (apB S l).2 w):=by
 have Hlt:=hid h.lt
 have H:=hid h
 have Hm:=hid hm
 have hkb:=rdJ_bd l
 have Hhb:=hid hb
 clear hb
 have hx1:(bs (66::l)).extract 0 1=⟨#[66]⟩:=by
  rw [bs_take];rfl
 have hx2:(bs (66::l)).extract 1 (l.length+1)=bs l:=by
  rw [bs_drop _ _ _ qb];rfl
 have hsz:(bs (66::l)).size=l.length+1:=by rw [bs_size];simp
 have hne:((bs (66::l)).toList=[])=False:=by rw [bs_listt];simp
 have hne2:((bs (66::l)).toList == [])=false:=by rw [bs_listt];rfl
 obtain ⟨W0,hW0⟩:=qe (w.alloc (.cells #[.string (bs l),.bool false] 98))
 have H0:=qh (RdK 98 w.heap.size (some l) w W0) (by rw [hW0];exact ⟨⟨l,false,ban _ _,rfl⟩,(Kept.refl _ _).alloc _⟩)
 have hA:=qh (apB S l=if (rdJ l).2.2=some [] then ({ S with bags:=S.bags.set (rdJ l).1 (bjoin (S.bags.getD (rdJ l).1 nb) (rdJ l).2.1) },0) else (S,10)) (rfl)
 have hJ:rdJ l=((rdInt 15 (some l)).1.toNat,rdBag (rdInt 15 (some l)).2):=rfl
 have hi:=hid (rintr_any w.heap.size (some l) 15 W0 H0.out.r qd qd)
 have hrd:=hid (fun W (hW:RdAt 98 w.heap.size (rdInt 15 (some l)).2 W)=>rbread_any w.heap.size (rdInt 15 (some l)).2 W hW)
 have hbd:=rdInt_bd 15 (some l)
 unfold RdP at hi
 unfold RdBagP at hrd
 generalize apB S l=Z at *
 generalize rdJ l=J at *
 subst hJ
 generalize rdInt 15 (some l)=R at *
 obtain ⟨v,s1⟩:=R
 dsimp only at hi hA hrd hbd hkb hll hlc hg hh
 generalize rdBag s1=R2 at *
 obtain ⟨g,s2⟩:=R2
 dsimp only at hA hrd hll hlc hh
 obtain ⟨k,rfl⟩ : ∃k:Nat,v=k:=⟨v.toNat,by omega⟩
 rw [Int.toNat_natCast] at hA hkb hll hlc hg
 have hend:=hid (fun W (hW:RdAt 98 w.heap.size s2 W)=>rend_any w.heap.size s2 W hW)
 obtain ⟨E,hE⟩:=qe (rdE s2)
 rw [←hE] at hend
 have hkk:(k:Int)<16:=by omega
 have hk0:(0:Int)≤(k:Int):=by omega
 clear h hm hbd
 by_cases hs:s2=some []
 ·subst hs
  obtain rfl:E=0:=hE
  have hZ:Z=({ S with bags:=S.bags.set k (bjoin (S.bags.getD k nb) g) },0):=by rw [hA.out,if_pos rfl]
  subst hZ
  clear hA
  go_enter Tryz.func18,Tryz.ntmps18
  go_wp2_with fail
  rw [←hW0]
  clear hW0
  refine hi.out.mono ?_
  rintro e w1 ⟨rfl,hr1,hk1⟩
  have H1:=hid (H0.out.next hr1 hk1)
  clear hr1 hk1
  go_wp2_with fail
  refine (hrd.out w1 H1.out.r).mono ?_
  rintro e w2 ⟨v0,v1,v2,rfl,hbr,hbf,hr2,hk2⟩
  obtain ⟨b0,d0,rfl⟩:=hbr.1.shape
  obtain ⟨b1,d1,rfl⟩:=hbr.2.1.shape
  obtain ⟨b2,d2,rfl⟩:=hbr.2.2.shape
  obtain ⟨y2,hy2⟩:=qe (w2.alloc (.cells #[.slice b0 g.1.length d0,.slice b1 g.2.1.length d1,.slice b2 g.2.2.length d2] 34))
  have HX:=qh (BX w2.heap.size (.slice b0 g.1.length d0) (.slice b1 g.2.1.length d1) (.slice b2 g.2.2.length d2) g y2) (by rw [hy2];exact BX.made hbr)
  have H2:=qh (RdK 98 w.heap.size _ w y2) (by rw [hy2];exact (H1.out.next hr2 hk2).alloc _)
  have HP2:=hid (kept_new H2.out.k)
  have Hs2:=qh (w.heap.size≤w2.heap.size) (Nat.le_trans H1.out.k.size hk2.size)
  clear hr2 hk2 hbr hbf
  go_wp2_with fail
  rw [←hy2]
  clear hy2
  generalize w2.heap.size=bx at *
  refine (hend.out y2 H2.out.r).mono ?_
  rintro e w3 ⟨rfl,rfl⟩
  obtain ⟨r,hA1,hR1,hM1⟩:=H.out.pure HP2.out
  obtain ⟨u0,u1,u2,e0,e1,e2,hgr,g0,g1,g2⟩:=hR1.bag k hkb
  obtain ⟨x0,z0,rfl⟩:=hgr.1.shape
  obtain ⟨x1,z1,rfl⟩:=hgr.2.1.shape
  obtain ⟨x2,z2,rfl⟩:=hgr.2.2.shape
  have hj:=hid (fun W (hW:Pure y2 W)=>rjoin5_any _ _ _ _ _ _ _ _ W (hgr.pure hW) (HX.out.r.pure hW) hg hh hll hlc)
  unfold BagO at hj
  have Hnl:=hid hA1.lt
  have Hml:=hid (Nat.lt_of_lt_of_le Hm.out HP2.out.size)
  have hxn:n≠bx:=by have:=Hlt.out;have:=Hs2.out;omega
  have hS:=hid (fun W (hW:Pure y2 W)=>(HX.out.pure hW).cells)
  have hS2:=hid (fun W (x y z:Value) (hW:Pure y2 W)=>(show (((W.setCell ⟨n,2+k*3,none⟩ x).setCell ⟨n,2+k*3+1,none⟩ y).setCell ⟨n,2+k*3+2,none⟩ z).cell? ⟨bx,0,none⟩=some (.slice b0 g.1.length d0)∧(((W.setCell ⟨n,2+k*3,none⟩ x).setCell ⟨n,2+k*3+1,none⟩ y).setCell ⟨n,2+k*3+2,none⟩ z).cell? ⟨bx,1,none⟩=some (.slice b1 g.2.1.length d1)∧(((W.setCell ⟨n,2+k*3,none⟩ x).setCell ⟨n,2+k*3+1,none⟩ y).setCell ⟨n,2+k*3+2,none⟩ z).cell? ⟨bx,2,none⟩=some (.slice b2 g.2.2.length d2) from by
   have e:=bso (bso (bso (HX.out.pure hW).b (p:=⟨n,2+k*3,none⟩) (by exact hxn) x) (p:=⟨n,2+k*3+1,none⟩) (by exact hxn) y) (p:=⟨n,2+k*3+2,none⟩) (by exact hxn) z
   exact ⟨cob e 0,cob e 1,cob e 2⟩))
  have hcs:=hid (fun W (hW:Pure y2 W)=>And.intro ((hA1.pure hW).at2 (j':=2+k*3) e0 oe) (And.intro ((hA1.pure hW).at2 (j':=2+k*3+1) e1 oe) ((hA1.pure hW).at2 (j':=2+k*3+2) e2 oe)))
  have HA:=hid hA1
  have HR:=hid hR1
  have HM:=hid hM1
  generalize hJ:bjoin (S.bags.getD k nb) g=J at *
  generalize S.bags.getD k nb=gg at *
  clear hJ hgr g0 g1 g2 hR1 hM1 hA1 hg hh hll hlc e0 e1 e2
  go_wp2_with fail
  refine wp_region_held_drew (S:=(fun W=>W.cell? ⟨bx,0,none⟩=some (.slice b0 g.1.length d0)∧W.cell? ⟨bx,1,none⟩=some (.slice b1 g.2.1.length d1)∧W.cell? ⟨bx,2,none⟩=some (.slice b2 g.2.2.length d2))) qk ?_ (fun hHeld=>?_)
  ·exact hS.out _ qv
  obtain ⟨y0,hy0⟩:=qe (y2.drew)
  have Q0:=qh (Pure y2 y0) (by rw [hy0];exact qv)
  rw [←hy0] at hHeld ⊢
  clear hy0
  obtain ⟨⟨e0,f0⟩,⟨e1,f1⟩,⟨e2,f2⟩⟩:=hcs.out _ Q0.out
  refine tkA 0 ?_
  refine tkA 1 ?_
  refine tkA 2 ?_
  refine tkA 3 ?_
  refine tkA 4 ?_
  refine tkA 5 ?_
  refine tkA 6 ?_
  refine tkA 8 ?_
  refine tkA 10 ?_
  refine tkA 11 ?_
  refine tkC 7 fun K hK=>?_
  go_simp
  refine hK.out _ _ (by exact hS.out _ Q0.out) fun hHeld=>?_
  clear hK K
  refine tkC 9 fun K hK=>?_
  go_simp
  go_at_call 54;refine (hj.out _ Q0.out).mono ?_;rintro e y3 ⟨v7,v8,v9,rfl,hrow,hp,hf⟩;have Q2:=hid (Q0.out.then_ hp);obtain ⟨a7,c7,rfl⟩:=hrow.1.shape;obtain ⟨a8,c8,rfl⟩:=hrow.2.1.shape;obtain ⟨a9,c9,rfl⟩:=hrow.2.2.shape
  refine hK.out _ _ (by exact hS.out _ Q2.out) fun hHeld=>?_
  clear hK K
  have Hrow:=hid hrow
  have Hf:=hid (hf.mono Q0.out.size)
  clear hrow hf e0 e1 e2 f0 f1 f2 hp
  obtain ⟨⟨e0,f0⟩,⟨e1,f1⟩,⟨e2,f2⟩⟩:=hcs.out _ Q2.out
  refine tkA 12 ?_
  refine tkC 13 fun K hK=>?_
  go_simp
  refine hK.out undef _ (by exact hS2.out _ _ _ _ Q2.out) fun hHeld=>?_
  clear hK K
  clear e0 e1 e2 f0 f1 f2
  refine wpAnyH_done qk ?_ _
  go_wp2
  go_ret
  have hk1:Kept (fun k=>k=n) y3 (((y3.setCell ⟨n,2+k*3,none⟩ (.slice a7 J.1.length c7)).setCell ⟨n,2+k*3+1,none⟩ (.slice a8 J.2.1.length c8)).setCell ⟨n,2+k*3+2,none⟩ (.slice a9 J.2.2.length c9)):=((kset y3 n _ _).trans (kset _ n _ _)).trans (kset _ n _ _)
  have hf0:=fun j hj=>Nat.lt_of_lt_of_le Hnl.out (Hf.out.1 j hj)
  have hf1:=fun j hj=>Nat.lt_of_lt_of_le Hnl.out (Hf.out.2.1 j hj)
  have hf2:=fun j hj=>Nat.lt_of_lt_of_le Hnl.out (Hf.out.2.2 j hj)
  have hm0:=fun j hj=>Nat.lt_of_lt_of_le Hml.out (Hf.out.1 j hj)
  have hm1:=fun j hj=>Nat.lt_of_lt_of_le Hml.out (Hf.out.2.1 j hj)
  have hm2:=fun j hj=>Nat.lt_of_lt_of_le Hml.out (Hf.out.2.2 j hj)
  have hbr:=Hrow.out.kept hk1 (fun j hj e=>by have:=hf0 j hj;omega) (fun j hj e=>by have:=hf1 j hj;omega) (fun j hj e=>by have:=hf2 j hj;omega)
  exact ⟨rfl,⟨_,(((HA.out.pure Q2.out).set2 (k*3) oe _).set2 (k*3+1) oe _).set2 (k*3+2) oe _,((HR.out.pure Q2.out).kept hk1).setBag hkb Hhb.out hbr (fun j hj e=>by have:=hf0 j hj;omega) (fun j hj e=>by have:=hf1 j hj;omega) (fun j hj e=>by have:=hf2 j hj;omega),((HM.out.pure Q2.out).kept2 (HR.out.pure Q2.out) hk1).setBag hkb Hhb.out hbr (fun j hj e=>by have:=hm0 j hj;omega) (fun j hj e=>by have:=hm1 j hj;omega) (fun j hj e=>by have:=hm2 j hj;omega)⟩,HP2.out.kept.trans (Q2.out.kept.trans hk1)⟩
 ·have hZ:Z=(S,10):=by rw [hA.out,if_neg hs]
  subst hZ
  obtain rfl:E=10:=by rw [hE];exact rdE_bad hs
  clear hA hs hE
  go_enter Tryz.func18,Tryz.ntmps18
  go_wp2_with fail
  rw [←hW0]
  clear hW0
  refine hi.out.mono ?_
  rintro e w1 ⟨rfl,hr1,hk1⟩
  have H1:=hid (H0.out.next hr1 hk1)
  clear hr1 hk1
  go_wp2_with fail
  refine (hrd.out w1 H1.out.r).mono ?_
  rintro e w2 ⟨v0,v1,v2,rfl,hbr,hbf,hr2,hk2⟩
  obtain ⟨b0,d0,rfl⟩:=hbr.1.shape
  obtain ⟨b1,d1,rfl⟩:=hbr.2.1.shape
  obtain ⟨b2,d2,rfl⟩:=hbr.2.2.shape
  obtain ⟨y2,hy2⟩:=qe (w2.alloc (.cells #[.slice b0 g.1.length d0,.slice b1 g.2.1.length d1,.slice b2 g.2.2.length d2] 34))
  have HX:=qh (BX w2.heap.size (.slice b0 g.1.length d0) (.slice b1 g.2.1.length d1) (.slice b2 g.2.2.length d2) g y2) (by rw [hy2];exact BX.made hbr)
  have H2:=qh (RdK 98 w.heap.size _ w y2) (by rw [hy2];exact (H1.out.next hr2 hk2).alloc _)
  have HP2:=hid (kept_new H2.out.k)
  have Hs2:=qh (w.heap.size≤w2.heap.size) (Nat.le_trans H1.out.k.size hk2.size)
  clear hr2 hk2 hbr hbf
  go_wp2_with fail
  rw [←hy2]
  clear hy2
  generalize w2.heap.size=bx at *
  refine (hend.out y2 H2.out.r).mono ?_
  rintro e w3 ⟨rfl,rfl⟩
  go_wp2
  go_ret
  exact ⟨rfl,H.out.pure HP2.out,HP2.out.kept⟩
theorem rapply_other (n m:Nat) (S:SD) (c:UInt8) (l:List UInt8) (w:World) (h:RSt2 n m S w) (hc:c≠73∧c≠82∧c≠66∧c≠78∧c≠86∧c≠72) :
 Calls Tryz.prog 18 #[.pointer (some ⟨n,0,none⟩),.string (bs (c::l))] w (RApP n m S 10 w):=by
 have H:=hid h
 have hx1:(bs (c::l)).extract 0 1=⟨#[c]⟩:=by
  rw [bs_take];rfl
 have hx2:(bs (c::l)).extract 1 (l.length+1)=bs l:=by
  rw [bs_drop _ _ _ qb];rfl
 have hsz:(bs (c::l)).size=l.length+1:=by rw [bs_size];simp
 have hne:((bs (c::l)).toList=[])=False:=by rw [bs_listt];simp
 have hne2:((bs (c::l)).toList == [])=false:=by rw [bs_listt];rfl
 obtain ⟨W0,hW0⟩:=qe (w.alloc (.cells #[.string (bs l),.bool false] 98))
 have H0:=qh (RdK 98 w.heap.size (some l) w W0) (by rw [hW0];exact ⟨⟨l,false,ban _ _,rfl⟩,(Kept.refl _ _).alloc _⟩)
 have q:∀d:UInt8,c≠d→(c == d)=false:=fun d h=>by simpa using h
 have q1:=q _ hc.1
 have q2:=q _ hc.2.1
 have q3:=q _ hc.2.2.1
 have q4:=q _ hc.2.2.2.1
 have q5:=q _ hc.2.2.2.2.1
 have q6:=q _ hc.2.2.2.2.2
 have HP:=hid (kept_new H0.out.k)
 clear q hc h
 go_enter Tryz.func18,Tryz.ntmps18
 go_wp2
 rw [←hW0]
 clear hW0
 go_ret
 exact ⟨rfl,H.out.pure HP.out,HP.out.kept⟩
theorem rapply_empty (n m:Nat) (S:SD) (w:World) (h:RSt2 n m S w) :
 Calls Tryz.prog 18 #[.pointer (some ⟨n,0,none⟩),.string (bs [])] w (RApP n m S 10 w):=by
 have hne:((bs []).toList=[])=True:=by rw [bs_listt];simp
 have hne2:((bs []).toList == [])=true:=by rw [bs_listt];rfl
 have H:=hid h
 clear h
 go_enter Tryz.func18,Tryz.ntmps18
 go_wp2
 go_ret
 exact ⟨rfl,H.out,Kept.refl _ _⟩
structure RFit (S:SD) (t:List UInt8):Prop where
 g:∀p,BV (S.bags.getD p nb)
 h:BV (bsz t)
 ll:∀p,(S.bags.getD p nb).1.length+(bsz t).1.length≤3000
 lc:∀p,(S.bags.getD p nb).2.1.length+(S.bags.getD p nb).2.2.length+((bsz t).2.1.length+(bsz t).2.2.length)≤3000
theorem rapply_any (n m M:Nat) (S:SD) (t:List UInt8) (w:World) (h:RSt2 n m S w) (hm:m<w.heap.size) (ok:SOk M S) (hf:RFit S t) :
 Calls Tryz.prog 18 #[.pointer (some ⟨n,0,none⟩),.string (bs t)] w (RApP n m (appl S t).1 (appl S t).2 w):=by
 cases t with
 | nil=>exact rapply_empty n m S w h
 | cons c l =>
   by_cases h1:c=73
   ·subst h1
    have e:appl S (73::l)=({ S with id:=(apI S.id l).1 },(apI S.id l).2):=by
     unfold appl
     dsimp only
     rw [if_pos rfl]
    rw [e]
    exact rapply_I n m S l w h ok.id0 ok.id1
   by_cases h2:c=82
   ·subst h2
    have e:appl S (82::l)=({ S with up:=(apR S.up l).1 },(apR S.up l).2):=by
     unfold appl
     dsimp only
     rw [if_neg qd,if_pos rfl]
    rw [e]
    exact rapply_R n m S l w h ok.id0 ok.id1
   by_cases h3:c=66
   ·subst h3
    have e:appl S (66::l)=apB S l:=by
     unfold appl
     dsimp only
     rw [if_neg qd,if_neg qd,if_pos rfl]
    rw [e]
    have eb:bsz (66::l)=(rdJ l).2.1:=by
     unfold bsz
     dsimp only
     rw [if_pos rfl]
    exact rapply_B n m S l w h hm ok.bn (hf.g _) (by rw [←eb];exact hf.h) (by rw [←eb];exact hf.ll _) (by rw [←eb];exact hf.lc _)
   by_cases h4:c=78
   ·subst h4
    have e:appl S (78::l)=apN S l:=by
     unfold appl
     dsimp only
     rw [if_neg qd,if_neg qd,if_neg qd,if_pos rfl]
    rw [e]
    exact rapply_N n m S l w h hm ok.tags
   by_cases h5:c=86
   ·subst h5
    have e:appl S (86::l)=apV S l:=by
     unfold appl
     dsimp only
     rw [if_neg qd,if_neg qd,if_neg qd,if_neg qd,if_pos rfl]
    rw [e]
    exact rapply_V n m S l w h hm ok.view
   by_cases h6:c=72
   ·subst h6
    have e:appl S (72::l)=apH S l:=by
     unfold appl
     dsimp only
     rw [if_neg qd,if_neg qd,if_neg qd,if_neg qd,if_neg qd,if_pos rfl]
    rw [e]
    exact rapply_H n m S l w h hm
   ·have e:appl S (c::l)=(S,10):=by
     unfold appl
     dsimp only
     rw [if_neg h1,if_neg h2,if_neg h3,if_neg h4,if_neg h5,if_neg h6]
    rw [e]
    exact rapply_other n m S c l w h ⟨h1,h2,h3,h4,h5,h6⟩
end Go.Proofs.YtdlpnhfgjficgaaGreat
