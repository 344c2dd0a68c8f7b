import Derived.Test.YtdlpnhfgjficgaaGreatMX18
namespace Go.Proofs.YtdlpnhfgjficgaaGreat
section
set_option maxHeartbeats 4000000
set_option maxRecDepth 8000
open Go.RowKit Go.Maps
theorem bs_listz (l:List UInt8):(bs l).toList=l:=ByteArray.toList_mk l
theorem rz_w0 (m:Nat) (ho:m<144115188075855872):IntKind.u64.wrap ((m:Int)*128)=(m:Int)*128:=IntWalk.u64_in _ oe
theorem rz_w1 (m c V:Nat) (ho:m<144115188075855872) (hV:V=m*128+c % 128):IntKind.u64.wrap ((m:Int)*128+(c:Int) % 128)=(V:Int):=by rw [IntWalk.u64_in _ oe];omega
theorem rz_c8 (c:UInt8):IntKind.u64.wrap (c.toNat:Int)=(c.toNat:Int):=IntWalk.u64_in _ (by have:=c.toNat_lt;omega)
theorem rz_cm (c:UInt8):(c.toNat:Int) % 18446744073709551616=(c.toNat:Int):=by have:=c.toNat_lt;omega
theorem rz_lt (m:Nat) (ho:¬18446744073709551616≤m*128):m<144115188075855872:=by omega
theorem rz_V (m c V:Nat) (ho:m<144115188075855872) (hV:V=m*128+c % 128):V<18446744073709551616:=by omega
theorem rnumr_any (b:Nat) (s:RS) (w:World) (h:RdAt 98 b s w) :
 Calls Tryz.prog 110 #[.pointer (some ⟨b,0,none⟩)] w (RdP 98 b (.int .u64 ((rdNum s).1:Nat)) (rdNum s).2 w):=by
 obtain ⟨l,t,e,rfl⟩:=h
 have he:=hid e
 have c0:=cob e 0
 have c1:=cob e 1
 have f0:=fob e 0
 have f1:=fob e 1
 simp at c0 c1
 clear e
 cases t
 ·show Calls _ _ _ w (RdP 98 b (.int .u64 ((rdNum (some l)).1:Nat)) (rdNum (some l)).2 w)
  have hsz:=bs_size l
  generalize hR:rdNum (some l)=R
  have HR:=hid hR
  clear hR
  have Htorn:Hid (∀W,Pure w W→R=(0,none)→RdP 98 b (.int .u64 (R.1:Nat)) R.2 w (.returned (.int .u64 0)) (W.setCell ⟨b,1,none⟩ (.bool true))):=fun W hW e=>by
   rw [e]
   exact ⟨rfl,⟨l,true,RdAt.set1 ((hW.block _ (lob he.out)).trans he.out) true,rfl⟩,Kept.setCell (S:=fun k=>k=b) (p:=⟨b,1,none⟩) (hW.kept (S:=fun k=>k=b)) (fun _=>rfl) _⟩
  have Hset:Hid (∀W r n,Pure w W→R=(n,some r)→RdP 98 b (.int .u64 (R.1:Nat)) R.2 w (.returned (.int .u64 (n:Nat))) (W.setCell ⟨b,0,none⟩ (.string (bs r)))):=fun W r n hW e=>by
   rw [e]
   exact ⟨rfl,⟨r,false,RdAt.set ((hW.block _ (lob he.out)).trans he.out) r,rfl⟩,Kept.setCell (S:=fun k=>k=b) (p:=⟨b,0,none⟩) (hW.kept (S:=fun k=>k=b)) (fun _=>rfl) _⟩
  have Hcell:Hid (∀W,Pure w W→(W.cell? ⟨b,0,none⟩=some (.string (bs l))∧W.frozen? ⟨b,0,none⟩=false∧W.frozen? ⟨b,1,none⟩=false∧W.cell? ⟨b,1,none⟩=some (.bool false))):=fun W hW=>⟨cob ((hW.block _ (lob he.out)).trans he.out) 0,fob ((hW.block _ (lob he.out)).trans he.out) 0,fob ((hW.block _ (lob he.out)).trans he.out) 1,cob ((hW.block _ (lob he.out)).trans he.out) 1⟩
  go_enter Tryz.func110,Tryz.ntmps110
  go_wp2
  go_loopw [3,4] (fun n i wr=>∃(k m:Nat),i=.int .i64 k∧n=.int .u64 m∧RdI l k m∧wr=w) (fun _ i _=>10-(RowKit.intOf i).toNat)
  case atStart=>exact ⟨0,0,rfl,rfl,RdI.start _,rfl⟩
  case round =>
   obtain ⟨k,m,rfl,rfl,hI,rfl⟩:=hrel
   have HI:=hid hI
   have h10:=hI.le10
   have hle:=hI.le
   have hmm:=hI.lt
   clear hI
   by_cases hlt:k<l.length∧k<10
   ·obtain ⟨hk1,hk2⟩:=hlt
    have hk1' : (k:Int)<(l.length:Int):=by omega
    have hk2' : (k:Int)<10:=by omega
    obtain ⟨c,hc⟩:=qe (l.getD k 0)
    have hidx:∀h,(bs l)[k]'h=c:=fun h=>(bs_get l k h).trans hc.symm
    have hclt:=c.toNat_lt
    by_cases ho:18446744073709551616≤m*128
    ·have hgt:(144115188075855871:Int)<(m:Int):=by omega
     have HT:=hid (Htorn.out wr (Below.refl _ _) (HR.out.symm.trans (HI.out.over hk1 hk2 ho)))
     clear ho hc
     go_wp2
     exact bodyPost_ret (v:=.int .u64 0) (by simp [results,Tryz.results110,go_sem]) rfl HT.out
    ·have hgt:¬(144115188075855871:Int)<(m:Int):=by omega
     have hlm:=rz_lt m ho
     have Hw0:=hid (rz_w0 m hlm)
     have Hc8:=hid (rz_c8 c)
     have Hmod:=hid (rz_cm c)
     obtain ⟨V,hV⟩ : ∃V:Nat,V=m*128+c.toNat % 128:=⟨_,rfl⟩
     have Hw1:=hid (rz_w1 m c.toNat V hlm hV)
     have hV64:=rz_V m c.toNat V hlm hV
     have Ho:=hid ho
     have HV:=hid hV
     have Hc:=hid hc
     by_cases hcl:c.toNat<128
     ·have hcl' : (c.toNat:Int)<128:=by omega
      have hask:=HI.out.asks hk1 ho (by rw [←hc];exact hcl)
      have hhit:=hid (fun h=>HI.out.hit hk1 hk2 ho (by rw [←hc];exact hcl) h)
      rw [←hc] at hask hhit
      have hVe:m*128+c.toNat=V:=by omega
      rw [hVe] at hask hhit
      have hnum:=hid (fun W=>rnum_any V W hV64)
      have hS:Hid (∀W,Pure wr W→(W.cell? ⟨b,0,none⟩=some (.string (bs l))∧Pure wr W)):=fun W hW=>⟨cob ((hW.block _ (lob he.out)).trans he.out) 0,hW⟩
      have hw2:IntKind.i64.wrap ((k:Int)+1)=((k+1:Nat):Int):=by rw [IntWalk.i64_in _ oe];omega
      have hw2' : wrap64 ((k:Int)+1)=((k+1:Nat):Int):=by unfold wrap64;omega
      have htk:=bs_take l (k+1)
      have hnn:(0:Int)≤(k:Int)+1:=by omega
      have hnk:(k:Int)+1≤(l.length:Int):=by omega
      have Hslt:=qh (l.length≤l.length) (Nat.le_refl _)
      have hx:=bs_drop l (k+1) l.length (Nat.le_refl _)
      clear ho hc hV hVe hlm hle
      by_cases hbad:l.head?=some 128
      ·have hneq:¬num V=l.take (k+1):=fun h=>hask.1 h hbad
       have hb:((bs (num V)).toList == (bs (l.take (k+1))).toList)=false:=by
        rw [beq_eq_false_iff_ne,Ne,bs_listz,bs_listz];exact hneq
       have HT:=hid (fun W hW=>Htorn.out W hW (HR.out.symm.trans (RdI.bad hbad)))
       have hb2:¬(bs (num V)).toList=(bs (l.take (k+1))).toList:=by rw [bs_listz,bs_listz];exact hneq
       clear hask hneq hbad hV64
       generalize num V=q at *
       have hw0:=Hw0.out
       have hc8:=Hc8.out
       have hmod:=Hmod.out
       have hw1:=Hw1.out
       clear hmm
       go_wp2
       refine wp_region_held_drew (S:=(fun W=>W.cell? ⟨b,0,none⟩=some (.string (bs l))∧Pure wr W)) qk ?_ (fun hHeld=>?_)
       ·first|assumption|exact hS.out _ (Below.refl _ wr).drew|exact hS.out _ hp2
       refine tkA 0 ?_
       refine tkA 2 ?_
       refine tkA 3 ?_
       refine tkA 4 ?_
       refine tkA 5 ?_
       refine tkA 6 ?_
       refine tkA 7 ?_
       refine tkA 8 ?_
       refine tkC 1 fun K hK=>?_
       go_simp
       go_at_call 124;refine (hnum.out _).mono ?_;rintro e w2 ⟨rfl,hp2⟩;have hp2:=Pure.then_ (show Pure wr _ from (Below.refl _ wr).drew) hp2
       refine hK.out _ _ (by first|assumption|exact hS.out _ (Below.refl _ wr).drew|exact hS.out _ hp2) fun hHeld=>?_
       clear hK K
       refine tkA 9 ?_
       refine wpAnyH_done qk ?_ _
       obtain ⟨k0,g0,g1,k1⟩:=Hcell.out _ hp2
       have Hp2:=hid hp2
       clear hp2
       go_wp2
       exact bodyPost_ret (v:=.int .u64 0) (by simp [results,Tryz.results110,go_sem]) rfl (HT.out _ Hp2.out)
      ·have heq:num V=l.take (k+1):=hask.2 hbad
       have HRR:=hid (HR.out.symm.trans (hhit.out hbad))
       have hb:((bs (num V)).toList == (bs (l.take (k+1))).toList)=true:=by rw [heq];simp
       clear hask hbad hV64
       have hw0:=Hw0.out
       have hc8:=Hc8.out
       have hmod:=Hmod.out
       have hw1:=Hw1.out
       clear hmm
       go_wp2
       refine wp_region_held_drew (S:=(fun W=>W.cell? ⟨b,0,none⟩=some (.string (bs l))∧Pure wr W)) qk ?_ (fun hHeld=>?_)
       ·first|assumption|exact hS.out _ (Below.refl _ wr).drew|exact hS.out _ hp2
       refine tkA 0 ?_
       refine tkA 2 ?_
       refine tkA 3 ?_
       refine tkA 4 ?_
       refine tkA 5 ?_
       refine tkA 6 ?_
       refine tkA 7 ?_
       refine tkA 8 ?_
       refine tkC 1 fun K hK=>?_
       go_simp
       go_at_call 124;refine (hnum.out _).mono ?_;rintro e w2 ⟨rfl,hp2⟩;have hp2:=Pure.then_ (show Pure wr _ from (Below.refl _ wr).drew) hp2
       refine hK.out _ _ (by first|assumption|exact hS.out _ (Below.refl _ wr).drew|exact hS.out _ hp2) fun hHeld=>?_
       clear hK K
       refine tkA 9 ?_
       refine wpAnyH_done qk ?_ _
       obtain ⟨k0,g0,g1,k1⟩:=Hcell.out _ hp2
       have Hp2:=hid hp2
       clear hp2
       go_wp2
       exact bodyPost_ret (v:=.int .u64 V) (by simp [results,Tryz.results110,go_sem]) rfl (Hset.out _ _ V Hp2.out HRR.out)
     ·have hcl' : ¬(c.toNat:Int)<128:=by omega
      have Hnext:=hid (HI.out.next hk1 hk2 ho (by rw [←hc];exact hcl))
      have Hv:=qh (V=m*128+((l.getD k 0).toNat-128)) (by rw [←hc];omega)
      have hw2:wrap64 ((k:Int)+1)=((k+1:Nat):Int):=by unfold wrap64;omega
      clear ho hc hV hlm hle hcl
      have hw0:=Hw0.out
      have hc8:=Hc8.out
      have hmod:=Hmod.out
      have hw1:=Hw1.out
      clear hmm
      go_wp2
      go_roundw
      case rel=>exact ⟨k+1,V,by go_num,rfl,by rw [Hv.out];exact Hnext.out,by simp⟩
      case measure=>simp [RowKit.intOf];omega
   ·have HT:=hid (Htorn.out wr (Below.refl _ _) (HR.out.symm.trans (HI.out.stop hlt)))
    have hxx:(¬(k:Int)<(l.length:Int))∨((k:Int)<(l.length:Int)∧¬(k:Int)<10):=by omega
    clear hlt
    rcases hxx with hx'|⟨hx',hx2⟩
    all_goals
     go_wp2
     exact bodyPost_ret (v:=.int .u64 0) (by simp [results,Tryz.results110,go_sem]) rfl HT.out
 ·show Calls _ _ _ w (RdP 98 b (.int .u64 0) none w)
  go_enter Tryz.func110,Tryz.ntmps110
  go_wp2
  exact bodyPost_ret (v:=.int .u64 0) (by simp [results,Tryz.results110,go_sem]) rfl ⟨rfl,⟨l,true,he.out,rfl⟩,Kept.refl _ _⟩
theorem rz_m (q:Nat) (hq:q<9223372036854775808):(q:Int) % 18446744073709551616=(q:Int):=by omega
theorem rz_u (q:Nat) (hq:q<9223372036854775808):IntKind.u64.wrap (q:Int)=(q:Int):=IntWalk.u64_in _ oe
theorem rz_i (q:Nat) (hq:q<9223372036854775808):IntKind.i64.wrap (q:Int)=(q:Int):=IntWalk.i64_in _ oe
theorem rz_w (q:Nat) (hq:q<9223372036854775808):wrap64 (q:Int)=(q:Int):=by unfold wrap64;omega
theorem RdAt.tear {T:TypeId} {b:Nat} {s:RS} {w0 w:World} (h:RdAt T b s w) (hk:Kept (fun k=>k=b) w0 w):RdAt T b none (w.setCell ⟨b,1,none⟩ (.bool true))∧Kept (fun k=>k=b) w0 (w.setCell ⟨b,1,none⟩ (.bool true)):=by
 obtain ⟨l,t,e,-⟩:=h
 exact ⟨⟨l,true,RdAt.set1 e true,rfl⟩,Kept.setCell (S:=fun k=>k=b) (p:=⟨b,1,none⟩) hk (fun _=>rfl) _⟩
theorem RdAt.parts {T:TypeId} {b:Nat} {s:RS} {w:World} (h:RdAt T b s w):∃(l:List UInt8) (t:Bool),w.cell? ⟨b,0,none⟩=some (.string (bs l))∧w.cell? ⟨b,1,none⟩=some (.bool t)∧w.frozen? ⟨b,0,none⟩=false∧w.frozen? ⟨b,1,none⟩=false∧t=s.isNone∧(∀r,s=some r→l=r):=by
 obtain ⟨l,t,e,hs⟩:=h
 refine ⟨l,t,cob e 0,cob e 1,fob e 0,fob e 1,?_,?_⟩
 ·subst hs;cases t <;> rfl
 ·subst hs;intro r;cases t <;> simp
theorem RdAt.move {T:TypeId} {b:Nat} {r:List UInt8} {w0 w:World} (h:RdAt T b (some r) w) (hk:Kept (fun k=>k=b) w0 w) (u:List UInt8):RdAt T b (some u) (w.setCell ⟨b,0,none⟩ (.string (bs u)))∧Kept (fun k=>k=b) w0 (w.setCell ⟨b,0,none⟩ (.string (bs u))):=by
 obtain ⟨l,t,e,hs⟩:=h
 have ht:t=false:=by cases t;rfl;simp at hs
 subst ht
 exact ⟨⟨u,false,RdAt.set e u,rfl⟩,Kept.setCell (S:=fun k=>k=b) (p:=⟨b,0,none⟩) hk (fun _=>rfl) _⟩
theorem rintr_any (b:Nat) (s:RS) (most:Int) (w:World) (h:RdAt 98 b s w) (hm:most<9223372036854775808) (hm0:0≤most) :
 Calls Tryz.prog 51 #[.pointer (some ⟨b,0,none⟩),.int .i64 most] w (RdP 98 b (.int .i64 (rdInt most s).1) (rdInt most s).2 w):=by
 have hn:=hid (rnumr_any b s w h)
 have hz:(rdNum s).2=none→(rdNum s).1=0:=rdNum_zero s
 have Hi:=qh (rdInt most s=match rdNum s with|(_,none)=>(0,none)|(n,some r)=>if most<0∨most<n then (0,none) else ((n:Int),some r)) (rfl)
 clear h
 generalize rdInt most s=R at *
 generalize rdNum s=N at *
 obtain ⟨n,s1⟩:=N
 unfold RdP at hn
 dsimp only at hn hz
 obtain ⟨q,rfl⟩ : ∃q:Nat,most=q:=⟨most.toNat,by omega⟩
 have hq:q<9223372036854775808:=by omega
 have hneg:¬(q:Int)<0:=by omega
 by_cases hc:(q:Int)<(n:Int)
 ·have HR:=qh (R=(0,none)) (by rw [Hi.out];cases s1 <;> simp [hc])
  have hmod:=rz_m q hq
  have hwr:=rz_u q hq
  clear hm hm0 hz
  go_enter Tryz.func51,Tryz.ntmps51
  go_wp2_with fail
  refine hn.out.mono ?_
  rintro e w1 ⟨rfl,hr1,hk1⟩
  obtain ⟨l,t,k0,k1,f0,f1,-,-⟩:=hr1.parts
  have HT:=hid (hr1.tear hk1)
  clear hr1 hk1
  go_wp2
  exact bodyPost_ret (v:=.int .i64 0) (by simp [results,Tryz.results51,go_sem]) rfl ⟨by rw [HR.out],by rw [HR.out];exact HT.out.1,HT.out.2⟩
 ·have Hn:=hid (show n≤q by omega)
  have hwi:=rz_i n oe
  have hww:=rz_w n oe
  have hmn:=rz_m n oe
  have hmod:=rz_m q hq
  have hwr:=rz_u q hq
  clear hm hm0
  cases s1 with
  | none =>
    have hz0:n=0:=hz rfl
    subst hz0
    have HR:=qh (R=(0,none)) (Hi.out)
    clear hz
    go_enter Tryz.func51,Tryz.ntmps51
    go_wp2_with fail
    refine hn.out.mono ?_
    rintro e w1 ⟨rfl,hr1,hk1⟩
    obtain ⟨l,t,k0,k1,f0,f1,ht,-⟩:=hr1.parts
    have H1:=hid hr1
    have K1:=hid hk1
    have ht' : t=true:=ht
    subst ht'
    clear hr1 hk1 ht
    go_wp2
    exact bodyPost_ret (v:=.int .i64 0) (by simp [results,Tryz.results51,go_sem]) rfl ⟨by rw [HR.out],by rw [HR.out];exact H1.out,K1.out⟩
  | some r =>
    have HR:=qh (R=((n:Int),some r)) (by
     have:=Hi.out
     dsimp only at this
     rw [this,if_neg (by rintro (h|h);exact hneg h;exact hc h)])
    clear hz
    go_enter Tryz.func51,Tryz.ntmps51
    go_wp2_with fail
    refine hn.out.mono ?_
    rintro e w1 ⟨rfl,hr1,hk1⟩
    obtain ⟨l,t,k0,k1,f0,f1,ht,-⟩:=hr1.parts
    have H1:=hid hr1
    have K1:=hid hk1
    have ht' : t=false:=ht
    subst ht'
    clear hr1 hk1 ht
    go_wp2
    exact bodyPost_ret (v:=.int .i64 (n:Nat)) (by simp [results,Tryz.results51,go_sem]) rfl ⟨by rw [HR.out],by rw [HR.out];exact H1.out,K1.out⟩
theorem rtextr_any (b:Nat) (s:RS) (most:Int) (w:World) (h:RdAt 98 b s w) (hm:most<9223372036854775808) (hm0:0≤most) :
 Calls Tryz.prog 113 #[.pointer (some ⟨b,0,none⟩),.int .i64 most] w (RdP 98 b (.string (bs (rdX most s).1)) (rdX most s).2 w):=by
 have hn:=hid (rintr_any b s most w h hm hm0)
 have hbd:=rdInt_bd most s
 have Hi:=qh (rdX most s=match rdInt most s with|(_,none)=>([],none)|(n,some r)=>if r.length<n.toNat then ([],none) else (r.take n.toNat,some (r.drop n.toNat))) (rfl)
 clear h
 generalize rdX most s=R at *
 generalize rdInt most s=N at *
 obtain ⟨n,s1⟩:=N
 unfold RdP at hn
 dsimp only at hn hbd
 cases s1 with
 | none =>
   have HR:=qh (R=([],none)) (Hi.out)
   clear hbd
   go_enter Tryz.func113,Tryz.ntmps113
   go_wp2_with fail
   refine hn.out.mono ?_
   rintro e w1 ⟨rfl,hr1,hk1⟩
   obtain ⟨l,t,k0,k1,f0,f1,ht,-⟩:=hr1.parts
   have HT:=hid (hr1.tear hk1)
   have ht' : t=true:=ht
   subst ht'
   clear hr1 hk1 ht
   go_wp2
   exact bodyPost_ret (v:=.string ⟨#[]⟩) (by simp [results,Tryz.results113,go_sem]) rfl ⟨by rw [HR.out];rfl,by rw [HR.out];exact HT.out.1,HT.out.2⟩
 | some r =>
   obtain ⟨k,rfl⟩ : ∃k:Nat,n=k:=⟨n.toNat,by omega⟩
   have Hi2:=hid Hi.out
   have hsz:=bs_size r
   dsimp only at Hi2
   rw [Int.toNat_natCast] at Hi2
   clear hbd
   by_cases hlt:r.length<k
   ·have HR:=qh (R=([],none)) (by rw [Hi2.out,if_pos hlt])
    have hlt' : (r.length:Int)<(k:Int):=by omega
    go_enter Tryz.func113,Tryz.ntmps113
    go_wp2_with fail
    refine hn.out.mono ?_
    rintro e w1 ⟨rfl,hr1,hk1⟩
    obtain ⟨l,t,k0,k1,f0,f1,ht,hl⟩:=hr1.parts
    have HT:=hid (hr1.tear hk1)
    obtain rfl:=hl r rfl
    have ht' : t=false:=ht
    subst ht'
    clear hr1 hk1 ht hl
    go_wp2
    exact bodyPost_ret (v:=.string ⟨#[]⟩) (by simp [results,Tryz.results113,go_sem]) rfl ⟨by rw [HR.out];rfl,by rw [HR.out];exact HT.out.1,HT.out.2⟩
   ·have HR:=qh (R=(r.take k,some (r.drop k))) (by rw [Hi2.out,if_neg hlt])
    have hlt' : ¬(r.length:Int)<(k:Int):=by omega
    have hle' : (k:Int)≤(r.length:Int):=by omega
    have hle:k≤r.length:=by omega
    have hx:∀L,r.length≤L→(bs r).extract k L=bs (r.drop k):=fun L hL=>bs_drop r k L hL
    have hy:(bs r).extract 0 k=bs (r.take k):=bs_take r k
    generalize r.drop k=T at *
    generalize r.take k=U at *
    clear hlt
    go_enter Tryz.func113,Tryz.ntmps113
    go_wp2_with fail
    refine hn.out.mono ?_
    rintro e w1 ⟨rfl,hr1,hk1⟩
    obtain ⟨l,t,k0,k1,f0,f1,ht,hl⟩:=hr1.parts
    have HM:=hid (hr1.move hk1 T)
    obtain rfl:=hl r rfl
    have ht' : t=false:=ht
    subst ht'
    clear hr1 hk1 ht hl
    go_wp2
    exact bodyPost_ret (v:=.string (bs U)) (by simp [results,Tryz.results113,go_sem]) rfl ⟨by rw [HR.out],by rw [HR.out];exact HM.out.1,HM.out.2⟩
def rdE (s:RS):Int:=match s with
 | some []=>0
 | _=>10
theorem rend_any (b:Nat) (s:RS) (w:World) (h:RdAt 98 b s w) :
 Calls Tryz.prog 52 #[.pointer (some ⟨b,0,none⟩)] w fun e w'=>e=.returned (.int .i64 (rdE s))∧w=w':=by
 obtain ⟨l,t,k0,k1,f0,f1,ht,hl⟩:=h.parts
 cases s with
 | none =>
   have ht' : t=true:=ht
   subst ht'
   obtain ⟨E,hE⟩ : ∃E,rdE none=E:=⟨_,rfl⟩
   rw [hE]
   have HE:=hid hE
   clear hl h hE ht
   go_enter Tryz.func52,Tryz.ntmps52
   go_wp2
   go_ret
   exact ⟨by rw [←HE.out];rfl,rfl⟩
 | some r =>
   have ht' : t=false:=ht
   subst ht'
   obtain rfl:=hl r rfl
   obtain ⟨E,hE⟩ : ∃E,rdE (some l)=E:=⟨_,rfl⟩
   rw [hE]
   have HE:=hid hE
   clear hl h hE ht
   by_cases hn:l=[]
   ·subst hn
    have hb:(bs ([]:List UInt8)).toList.isEmpty=true:=by rw [bs_listz];rfl
    have hb2:(bs ([]:List UInt8)).toList=[]:=bs_listz []
    go_enter Tryz.func52,Tryz.ntmps52
    go_wp2
    go_ret
    exact ⟨by rw [←HE.out];rfl,rfl⟩
   ·have hb:(bs l).toList.isEmpty=false:=by rw [bs_listz];cases l;exact absurd rfl hn;rfl
    have hb2:¬(bs l).toList=[]:=by rw [bs_listz];exact hn
    have HN:=qh (rdE (some l)=10) (by cases l;exact absurd rfl hn;rfl)
    clear hn
    go_enter Tryz.func52,Tryz.ntmps52
    go_wp2
    go_ret
    exact ⟨by rw [←HE.out,HN.out];rfl,rfl⟩
end
section
set_option maxHeartbeats 4000000
set_option maxRecDepth 8000
open Go.RowKit Go.Maps Go.Shelf Go.Sort
theorem set5 {w:World} {b:Nat} {x0 x1 x2 x3 x4:Value} {t:TypeId} (h:w.heap[b]?=some (.cells #[x0,x1,x2,x3,x4] t (0,0))) (v0 v1 v2 v3 v4:Value) :
 (((((w.setCell ⟨b,0,none⟩ v0).setCell ⟨b,1,none⟩ v1).setCell ⟨b,2,none⟩ v2).setCell ⟨b,3,none⟩ v3).setCell ⟨b,4,none⟩ v4).heap[b]?=some (.cells #[v0,v1,v2,v3,v4] t (0,0)):=by
 have:=bsc (bsc (bsc (bsc (bsc h 0 v0) 1 v1) 2 v2) 3 v3) 4 v4
 simpa using this
theorem kept5 (w:World) (b:Nat) (v0 v1 v2 v3 v4:Value):Kept (fun k=>k=b) w (((((w.setCell ⟨b,0,none⟩ v0).setCell ⟨b,1,none⟩ v1).setCell ⟨b,2,none⟩ v2).setCell ⟨b,3,none⟩ v3).setCell ⟨b,4,none⟩ v4) :=
 (((((Kept.refl (fun k=>k=b) w).setCell (p:=⟨b,0,none⟩) (fun _=>rfl) v0).setCell (p:=⟨b,1,none⟩) (fun _=>rfl) v1).setCell (p:=⟨b,2,none⟩) (fun _=>rfl) v2).setCell (p:=⟨b,3,none⟩) (fun _=>rfl) v3).setCell (p:=⟨b,4,none⟩) (fun _=>rfl) v4
def getR (o:Option Msg):Value:=.tuple #[mv (o.getD m0),.bool o.isSome]
theorem lget_hit {l:List Msg} {d:Dot} {k:Nat} (hk:k<l.length) (hn:∀m ∈ l.take k,m.1≠d) (h:(l.getD k m0).1=d):lget l d=some (l.getD k m0):=by
 have e:l=l.take k++l.drop k:=(List.take_append_drop k l).symm
 have e2:l.drop k=l.getD k m0::l.drop (k+1):=by
  rw [List.drop_eq_getElem_cons hk];simp [List.getD,hk]
 conv=>lhs;rw [e]
 rw [lget_append,lget_none.2 hn,e2,lget_cons,if_pos h];rfl
theorem rget_any (v0 v1 v2:Value) (g:Bag) (d:Dot) (w:World) (hr:BR3 v0 v1 v2 g w) :
 Calls Tryz.prog 17 #[.agg #[v0,v1,v2],dv d] w fun e w'=>e=.returned (getR (lget g.1 d))∧Pure w w':=by
 obtain ⟨L,B,C⟩:=g
 obtain ⟨x,y⟩:=d
 have heq:=dot_eqIn
 obtain ⟨h0,-,-⟩:=hr
 dsimp only at h0 ⊢
 obtain ⟨a0,c0,rfl⟩:=h0.shape
 have hll:L.length≤maxLen:=Row.len_le h0
 unfold maxLen at hll
 obtain ⟨wz,hwz⟩:=qe (((w.alloc (.cells #[.slice a0 L.length c0,v1,v2] 34)).alloc (.cells #[.int .i64 x,.int .i64 y] 28)).alloc (.cells #[.int .i64 0,.int .i64 0,.string ⟨#[]⟩,.string ⟨#[]⟩,.int .i64 0] 43))
 have Hpz:=qh (Pure w wz) (by rw [hwz];exact (qp.alloc qb _).alloc qc _)
 have n1:=ban (w.alloc (.cells #[.slice a0 L.length c0,v1,v2] 34)) (.cells #[.int .i64 x,.int .i64 y] 28)
 have n2:=ban ((w.alloc (.cells #[.slice a0 L.length c0,v1,v2] 34)).alloc (.cells #[.int .i64 x,.int .i64 y] 28)) (.cells #[.int .i64 0,.int .i64 0,.string ⟨#[]⟩,.string ⟨#[]⟩,.int .i64 0] 43)
 simp only [World.size_alloc] at n1 n2
 have hbk:Hid (wz.heap[w.heap.size]?=some (.cells #[.slice a0 L.length c0,v1,v2] 34 (0,0))∧wz.heap[w.heap.size+1]?=some (.cells #[.int .i64 x,.int .i64 y] 28 (0,0))∧wz.heap[w.heap.size+1+1]?=some (.cells #[.int .i64 0,.int .i64 0,.string ⟨#[]⟩,.string ⟨#[]⟩,.int .i64 0] 43 (0,0))):=by
  show _∧_∧_
  rw [hwz]
  exact ⟨bao (bao (ban _ _) _) _,bao n1 _,n2⟩
 clear n1 n2
 have HF:Hid (∀W,Pure wz W→(W.cell? ⟨w.heap.size,0,none⟩=some (.slice a0 L.length c0)∧W.cell? ⟨w.heap.size+1,0,none⟩=some (.int .i64 x)∧W.cell? ⟨w.heap.size+1,1,none⟩=some (.int .i64 y)∧Msgs W (.slice a0 L.length c0) L∧W.heap[w.heap.size+1+1]?=some (.cells #[.int .i64 0,.int .i64 0,.string ⟨#[]⟩,.string ⟨#[]⟩,.int .i64 0] 43 (0,0)))):=fun W hW=>by
  have e0:=(hW.block _ (lob hbk.out.1)).trans hbk.out.1
  have e1:=(hW.block _ (lob hbk.out.2.1)).trans hbk.out.2.1
  have e2:=(hW.block _ (lob hbk.out.2.2)).trans hbk.out.2.2
  exact ⟨cob e0 0,cob e1 0,cob e1 1,Row.pure h0 (Hpz.out.then_ hW),e2⟩
 have Hfin:Hid (∀(W:World) (m:Msg),Pure wz W→((((((W.setCell ⟨w.heap.size+1+1,0,none⟩ (.int .i64 m.1.1)).setCell ⟨w.heap.size+1+1,1,none⟩ (.int .i64 m.1.2)).setCell ⟨w.heap.size+1+1,2,none⟩ (.string (bs m.2.1))).setCell ⟨w.heap.size+1+1,3,none⟩ (.string (bs m.2.2.1))).setCell ⟨w.heap.size+1+1,4,none⟩ (.int .i64 m.2.2.2)).heap[w.heap.size+1+1]?=some (.cells #[.int .i64 m.1.1,.int .i64 m.1.2,.string (bs m.2.1),.string (bs m.2.2.1),.int .i64 m.2.2.2] 43 (0,0))∧Pure w (((((W.setCell ⟨w.heap.size+1+1,0,none⟩ (.int .i64 m.1.1)).setCell ⟨w.heap.size+1+1,1,none⟩ (.int .i64 m.1.2)).setCell ⟨w.heap.size+1+1,2,none⟩ (.string (bs m.2.1))).setCell ⟨w.heap.size+1+1,3,none⟩ (.string (bs m.2.2.1))).setCell ⟨w.heap.size+1+1,4,none⟩ (.int .i64 m.2.2.2)))):=fun W m hW=>by
  have e2:=(hW.block _ (lob hbk.out.2.2)).trans hbk.out.2.2
  refine ⟨set5 e2 _ _ _ _ _,?_⟩
  have hk:=kept5 W (w.heap.size+1+1) (.int .i64 m.1.1) (.int .i64 m.1.2) (.string (bs m.2.1)) (.string (bs m.2.2.1)) (.int .i64 m.2.2.2)
  exact ((Pure.kept (S:=fun k=>w.heap.size≤k) (Hpz.out.then_ hW)).trans (hk.mono (fun k _ e=>(show w.heap.size≤k by omega)))).below (Nat.le_refl _) (fun k hk e=>by omega)
 clear h0
 unfold dv
 dsimp only
 go_enter Tryz.func17,Tryz.ntmps17
 go_wp2_with fail
 rw [←hwz]
 clear hwz
 go_loopw [6] (fun i wr=>∃k:Nat,k≤L.length∧i=.int .i64 k∧(∀m ∈ L.take k,m.1≠(x,y))∧Pure wz wr) (fun i _=>L.length-(RowKit.intOf i).toNat)
 case atStart=>exact ⟨0,Nat.zero_le _,rfl,by simp,Below.refl _ _⟩
 case round =>
  obtain ⟨k,hk,rfl,hno,hp⟩:=hrel
  obtain ⟨g0,g1,g2,hL,hR⟩:=HF.out wr hp
  by_cases hlt:k<L.length
  ·have hlt' : (k:Int)<(L.length:Int):=by omega
   obtain ⟨b,off,rfl,hb,z0,z1,z2,z3,z4⟩:=Msgs.get hL hlt
   have Hhit:=hid (lget_hit hlt hno)
   have Hmiss:Hid ((L.getD k m0).1≠(x,y)→∀m ∈ L.take (k+1),m.1≠(x,y)):=fun h d hd=>by
    rw [take_succ_m L k hlt,List.mem_append,List.mem_singleton] at hd
    rcases hd with hd|rfl
    ·exact hno d hd
    ·exact h
   have Hp:=hid hp
   generalize L.getD k m0=z at *
   by_cases hx:z.1=(x,y)
   ·have Hh:=hid (Hhit.out hx)
    obtain ⟨⟨zx,zy⟩,zq,zb,zc⟩:=z
    simp only [Prod.mk.injEq] at hx
    obtain ⟨hx1,hx2⟩:=hx
    dsimp only at z0 z1 z2 z3 z4
    subst hx1
    subst hx2
    have hR0:=cob hR 0
    have hR1:=cob hR 1
    have hR2:=cob hR 2
    have hR3:=cob hR 3
    have hR4:=cob hR 4
    have hF:=fun i=>fob hR i
    have hsl:=lob hR
    simp only [List.getElem?_toArray,List.getElem?_cons_succ,List.getElem?_cons_zero] at hR0 hR1 hR2 hR3 hR4
    clear hno hp Hhit Hmiss hL hR
    go_wp2_with fail
    go_quiet (fail)
    have Hw:=hid (Hfin.out (wr.drewN nq) ((zx,zy),zq,zb,zc) (Hp.out.then_ (pdN _ _)))
    dsimp only at Hw
    have T0:=hid (cob Hw.out.1 0)
    have T1:=hid (cob Hw.out.1 1)
    have T2:=hid (cob Hw.out.1 2)
    have T3:=hid (cob Hw.out.1 3)
    have T4:=hid (cob Hw.out.1 4)
    go_wp2
    exact bodyPost_ret (v:=.tuple #[.agg #[.int .i64 zx,.int .i64 zy,.string (bs zq),.string (bs zb),.int .i64 zc],.bool true]) (by simp [results,Tryz.results17,go_sem,T0.out,T1.out,T2.out,T3.out,T4.out]) rfl ⟨by rw [Hh.out];rfl,Hw.out.2⟩
   ·have Hm:=hid (Hmiss.out hx)
    obtain ⟨⟨zx,zy⟩,zq,zb,zc⟩:=z
    have hx' : (decide (zx=x) && decide (zy=y))=false:=by
     rw [Bool.and_eq_false_iff,decide_eq_false_iff_not,decide_eq_false_iff_not]
     by_cases h1:zx=x
     ·right;intro h2;exact hx (by rw [h1,h2])
     ·exact .inl h1
    dsimp only at z0 z1 z2 z3 z4
    have heq2:=fun W=>(heq W zx zy x y)
    rw [hx'] at heq2
    clear hno hp Hhit Hmiss hL hR hx
    go_wp2_with fail
    go_quiet (fail)
    go_wp2
    go_roundw
    case rel=>exact ⟨k+1,by omega,by go_num,Hm.out,Hp.out.then_ (pdN _ _)⟩
    case measure=>simp [RowKit.intOf];omega
  ·have hlt' : ¬(k:Int)<(L.length:Int):=by omega
   rw [List.take_of_length_le oe] at hno
   have Hn:=hid (lget_none.2 hno)
   have Hp:=hid hp
   have hR0:=cob hR 0
   have hR1:=cob hR 1
   have hR2:=cob hR 2
   have hR3:=cob hR 3
   have hR4:=cob hR 4
   have hF:=fun i=>fob hR i
   have hsl:=lob hR
   simp only [List.getElem?_toArray,List.getElem?_cons_succ,List.getElem?_cons_zero] at hR0 hR1 hR2 hR3 hR4
   have Hw:=hid (Hfin.out wr m0 hp)
   have T0:=hid (cob Hw.out.1 0)
   have T1:=hid (cob Hw.out.1 1)
   have T2:=hid (cob Hw.out.1 2)
   have T3:=hid (cob Hw.out.1 3)
   have T4:=hid (cob Hw.out.1 4)
   unfold m0 bs at Hw T0 T1 T2 T3 T4
   dsimp only at Hw T0 T1 T2 T3 T4
   clear hno hp hL hR
   go_wp2
   exact bodyPost_ret (v:=.tuple #[.agg #[.int .i64 0,.int .i64 0,.string ⟨#[]⟩,.string ⟨#[]⟩,.int .i64 0],.bool false]) (by simp [results,Tryz.results17,go_sem,T0.out,T1.out,T2.out,T3.out,T4.out]) rfl ⟨by rw [Hn.out];rfl,Hw.out.2⟩
end
section
set_option maxHeartbeats 4000000
set_option maxRecDepth 8000
open Go.RowKit Go.Maps Go.Shelf
theorem own_append_p {ops:Array Oper} {rest:List Oper} {o:Oper} {a:Act} {Q:Exit→Act→World→Prop} {w:World} (hgd:o.guard=none) (s x:Operand)
 (ho:o.op=.call { callee:=.builtin .append,args:=#[s,x],argTypes:=#[50,50] }) (base:Nat) (v:Value) (xs:List Pr) (n:Nat) (hs:a.eval s=v)
 (hown:w.ownsRow base 92 3 v n (gvs pcells xs)) (u:Value) (k:List Pr) (m:Nat) (hx:a.eval x=u) (hu:Row w u m 3 (gvs pcells k)) (hlen:n+m≤1000000) (hbase:base≤w.heap.size)
 (h:∀v' w',w'.ownsRow base 92 3 v' (n+m) (gvs pcells (xs++k))→w.grownBy w' v.ownBlock→wpList Tryz.prog ops Q rest (a.put o.dst v') w'):wpList Tryz.prog ops Q (o::rest) a w:=by
 obtain ⟨i0,hi,hz0,hz1,hz2⟩:=ipt infoPeer
 exact wlar hgd s x _ ho base 92 i0 _ 3 24 Tryz.underlying50 hi hz0 hz1 hz2 rfl qd qd v n (gvs pcells xs) hs hown u m (gvs pcells k) hx hu (pvs_one k) hlen hbase (fun v' w' q1 q2=>h v' w' (by rw [gvs_append];exact q1) q2)
theorem peers_lit (w:World) (t:Pr):Row (w.alloc (.cells #[.int .i64 t.id,.int .i64 t.inc,.int .i64 t.st] 92)) (.slice (some ⟨w.heap.size,0,none⟩) 1 1) 1 3 (gvs pcells [t]):=lit_g w 92 t 3 rfl rfl
theorem rdPeer_none:(rdPeer none).2=none:=rfl
theorem GRow.peers {w:World} {v:Value} {l:List Pr} (h:GRow pcells 3 w v l):Peers w v l:=h
theorem vread_any (b:Nat) (s:RS) (w:World) (h:RdAt 117 b s w) :
 Calls Tryz.prog 95 #[.pointer (some ⟨b,0,none⟩)] w (RdRowG pcells 3 117 b (rdView s).1 (rdView s).2 w):=by
 have Hb:=hid h.lt
 have hi1:=hid (mintr_any b s 64 w h qd qd)
 have hbd:=rdInt_bd 64 s
 have hz:=rdInt_zero 64 s
 have Hr:Hid (rdView s=match rdItems rdPeer (rdInt 64 s).1.toNat [] (rdInt 64 s).2 with
  | (_,none)=>([],none)
  | (l,some r)=>if vchk l then (l,some r) else ([],none)):=(show _=_ from rfl)
 have hfine:=hid (fun s W (hW:RdAt 117 b s W)=>fine_any b s W hW)
 have h40:=hid (fun s W (hW:RdAt 117 b s W)=>mintr_any b s 1099511627776 W hW qd qd)
 have h30:=hid (fun s W (hW:RdAt 117 b s W)=>mintr_any b s 1073741824 W hW qd qd)
 have h2:=hid (fun s W (hW:RdAt 117 b s W)=>mintr_any b s 2 W hW qd qd)
 have hneg:=hid (fun s W (hW:RdAt 117 b s W)=>(show Calls _ _ _ _ _ from by have:=mintr_any b s (-1) W hW qd qd;rw [rdInt_neg (-1) qd] at this;exact this))
 have hchk:=hid (fun v l W (hW:GRow pcells 3 W v l) hl=>vchk_any v l W hW hl)
 have Hw:=qh (RdOwn pcells 3 92 117 b (.slice none 0 0) [] s w w) (⟨RdK.start h,World.ownsRow_nil _ _ _ _,h.lt⟩)
 unfold RdP at hi1 h40 h30 h2 hneg
 generalize rdView s=R at *
 generalize rdInt 64 s=N1 at *
 obtain ⟨x,s1⟩:=N1
 dsimp only at hi1 hbd Hr hz
 obtain ⟨n,rfl⟩ : ∃n:Nat,x=n:=⟨x.toNat,by omega⟩
 have Hr2:=hid Hr.out
 rw [Int.toNat_natCast] at Hr2
 have Hst:=hid (RdIn.start rdPeer n s1 (fun e=>by have:=hz e;omega))
 obtain ⟨total,htot⟩:=qe (rdItems rdPeer n [] s1)
 rw [←htot] at Hr2 Hst
 have hbn:=hbd.2 oe
 clear h hbd Hr htot hz
 go_enter Tryz.func95,Tryz.ntmps95
 go_wp2_with fail
 refine hi1.out.mono ?_
 rintro e w1 ⟨rfl,hr1,hk1⟩
 have H1:=hid (Hw.out.next hr1 hk1)
 clear hr1 hk1
 go_wp2_with fail
 go_loopw [3,7] (fun v i wr=>∃(k:Nat) (acc:List Pr) (s:RS),i=.int .i64 k∧k≤n∧acc.length=k∧RdOwn pcells 3 92 117 b v acc s w wr∧RdIn rdPeer total (n-k) acc s) (fun _ i _=>n-(RowKit.intOf i).toNat)
 case atStart=>exact ⟨0,[],s1,rfl,Nat.zero_le _,rfl,H1.out,Hst.out⟩
 case round =>
  obtain ⟨k,acc,s,rfl,hkn,hlen,hI,hin⟩:=hrel
  have HI:=hid hI
  have Hin:=hid hin
  have Hlen:=hid hlen
  have hl100:acc.length≤64:=by omega
  obtain ⟨a,c,rfl⟩:=osd hI.own
  clear hI hin hlen
  by_cases hlt:k<n
  ·have hlt' : (k:Int)<(n:Int):=by omega
   have Hstep:=hid (RdIn.step (m:=n-(k+1)) rdPeer_none (by have:=Hin.out;rw [show n-k=(n-(k+1))+1 by omega] at this;exact this))
   have hM:rdPeer s=(⟨(rdInt 1099511627776 s).1,(rdInt 1073741824 (rdInt 1099511627776 s).2).1,(rdInt 2 (rdInt 1073741824 (rdInt 1099511627776 s).2).2).1⟩,(rdInt 2 (rdInt 1073741824 (rdInt 1099511627776 s).2).2).2):=rfl
   rw [hM] at Hstep
   have g1:=hid (h40.out s)
   have g2:=hid (h30.out (rdInt 1099511627776 s).2)
   have g3:=hid (h2.out (rdInt 1073741824 (rdInt 1099511627776 s).2).2)
   clear hM
   generalize rdInt 2 (rdInt 1073741824 (rdInt 1099511627776 s).2).2=N3 at *
   generalize rdInt 1073741824 (rdInt 1099511627776 s).2=N2 at *
   generalize rdInt 1099511627776 s=N1 at *
   obtain ⟨qi,t1⟩:=N1
   obtain ⟨qn,t2⟩:=N2
   obtain ⟨qs,t3⟩:=N3
   dsimp only at g1 g2 g3 Hstep
   go_wp2_with fail
   refine (g1.out wr HI.out.r.r).mono ?_
   rintro e w3 ⟨rfl,hr3,hk3⟩
   have I3:=hid (HI.out.next hr3 hk3)
   obtain ⟨y3,hy3⟩:=qe (w3.alloc (.cells #[.int .i64 qi,.int .i64 0,.int .i64 0] 92))
   have J3:=qh (RdOwn pcells 3 92 117 b (.slice a acc.length c) acc t1 w y3) (by rw [hy3];exact I3.out.alloc _)
   have M3:=qh (y3.heap[w3.heap.size]?=some (.cells #[.int .i64 qi,.int .i64 0,.int .i64 0] 92 (0,0))) (by rw [hy3];exact ban _ _)
   have nm:=qh (w.heap.size≤w3.heap.size∧(∀j,(Value.slice a acc.length c).ownBlock=some j→j≠w3.heap.size)) (⟨I3.out.r.k.size,fun j hj e=>by have:=(I3.out.own.lt j hj).2;omega⟩)
   clear hr3 hk3 I3 g1
   go_wp2_with fail
   rw [←hy3]
   clear hy3
   generalize w3.heap.size=m at *
   refine (g2.out y3 J3.out.r.r).mono ?_
   rintro e w4 ⟨rfl,hr4,hk4⟩
   have I4:=hid (J3.out.next hr4 hk4)
   have M4':=hid (block_kept M3.out hk4 (by have:=nm.out.1;have:=J3.out.wb;omega))
   have e1:=cob M4'.out 1
   have f1:=fob M4'.out 1
   simp at e1
   obtain ⟨y4,hy4⟩:=qe (w4.setCell ⟨m,1,none⟩ (.int .i64 qn))
   have J4:=qh (RdOwn pcells 3 92 117 b (.slice a acc.length c) acc t2 w y4) (by rw [hy4];exact I4.out.set nm.out.1 nm.out.2 _)
   have M4:=qh (y4.heap[m]?=some (.cells #[.int .i64 qi,.int .i64 qn,.int .i64 0] 92 (0,0))) (by rw [hy4];have:=bsc M4'.out 1 (.int .i64 qn);simpa using this)
   clear hr4 hk4 I4 M4' J3 M3 g2
   go_wp2_with fail
   rw [←hy4]
   clear hy4 e1 f1
   refine (g3.out y4 J4.out.r.r).mono ?_
   rintro e w5 ⟨rfl,hr5,hk5⟩
   have I5:=hid (J4.out.next hr5 hk5)
   have M5':=hid (block_kept M4.out hk5 (by have:=nm.out.1;have:=J4.out.wb;omega))
   have e1:=cob M5'.out 2
   have f1:=fob M5'.out 2
   simp at e1
   obtain ⟨y5,hy5⟩:=qe (w5.setCell ⟨m,2,none⟩ (.int .i64 qs))
   have J5:=qh (RdOwn pcells 3 92 117 b (.slice a acc.length c) acc t3 w y5) (by rw [hy5];exact I5.out.set nm.out.1 nm.out.2 _)
   have M5:=qh (y5.heap[m]?=some (.cells #[.int .i64 qi,.int .i64 qn,.int .i64 qs] 92 (0,0))) (by rw [hy5];have:=bsc M5'.out 2 (.int .i64 qs);simpa using this)
   clear hr5 hk5 I5 M5' J4 M4 g3
   go_upto_region 7 with fail
   rw [←hy5]
   clear hy5 e1 f1
   have g0:=cob M5.out 0
   have g1:=cob M5.out 1
   have g2:=cob M5.out 2
   simp at g0 g1 g2
   have hs6:w.heap.size≤(y5.alloc (.cells #[.int .i64 qi,.int .i64 qn,.int .i64 qs] 92)).heap.size:=by have:=J5.out.r.k.size;simp;omega
   go_wp2_with (at_builtin;refine own_append_p rfl _ _ rfl w.heap.size _ acc acc.length rfl (J5.out.own.alloc _) _ [(⟨qi,qn,qs⟩ : Pr)] 1 rfl (peers_lit y5 (⟨qi,qn,qs⟩ : Pr)) oe hs6 ?_)
   intro v7 w7 hown7 hg7
   have Hown7:=qh (w7.ownsRow w.heap.size 92 3 v7 (acc++[(⟨qi,qn,qs⟩ : Pr)]).length (gvs pcells (acc++[(⟨qi,qn,qs⟩ : Pr)]))) (by rw [List.length_append];exact hown7)
   have J9:=hid ((J5.out.alloc _).grow hg7 Hown7.out)
   obtain ⟨a7,c7,rfl⟩:=osd hown7
   clear hown7 hg7 g0 g1 g2 hs6
   go_wp2
   go_roundw
   case rel=>exact ⟨k+1,acc++[⟨qi,qn,qs⟩],t3,by go_num,by omega,by simp [Hlen.out],J9.out,Hstep.out⟩
   case measure=>simp [RowKit.intOf];omega
  ·obtain rfl:k=n:=by omega
   have hlt' : ¬(k:Int)<(k:Int):=by omega
   have Htt:=hid (RdIn.fin (by have:=Hin.out;rw [Nat.sub_self] at this;exact this))
   go_wp2_with fail
   refine (hfine.out s wr HI.out.r.r).mono ?_
   rintro e w3 ⟨rfl,hp3⟩
   have J3:=hid (HI.out.pure hp3)
   clear hp3
   cases s with
   | none =>
     have HR:=qh (R=([],none)) (by rw [Hr2.out,Htt.out])
     go_wp2_with fail
     refine (hneg.out none w3 J3.out.r.r).mono ?_
     rintro e w5 ⟨rfl,hr5,hk5⟩
     have J5:=hid (J3.out.next hr5 hk5)
     clear hr5 hk5
     go_wp2
     go_ret
     exact J5.out.none_ (by rw [HR.out]) (by rw [HR.out])
   | some r =>
     have HRr:=qh (R=if vchk acc then (acc,some r) else ([],none)) (by rw [Hr2.out,Htt.out])
     have hcb:=hid (hchk.out _ _ w3 J3.out.row oe)
     unfold er1 at hcb
     generalize vchk acc=V at *
     go_wp2_with fail
     refine hcb.out.mono ?_
     rintro e w4 ⟨rfl,hp4⟩
     have J4:=hid (J3.out.pure hp4)
     clear hp4
     cases V with
     | false =>
       have HR:=qh (R=([],none)) (HRr.out)
       go_wp2_with fail
       refine (hneg.out (some r) w4 J4.out.r.r).mono ?_
       rintro e w5 ⟨rfl,hr5,hk5⟩
       have J5:=hid (J4.out.next hr5 hk5)
       clear hr5 hk5
       go_wp2
       go_ret
       exact J5.out.none_ (by rw [HR.out]) (by rw [HR.out])
     | true =>
       have HR:=qh (R=(acc,some r)) (HRr.out)
       go_wp2
       go_ret
       exact J4.out.done (by rw [HR.out]) (by rw [HR.out])
end
end Go.Proofs.YtdlpnhfgjficgaaGreat
