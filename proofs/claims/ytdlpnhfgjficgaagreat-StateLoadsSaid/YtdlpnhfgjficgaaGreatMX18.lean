import Derived.Test.YtdlpnhfgjficgaaGreatMVv
import Derived.Test.YtdlpnhfgjficgaaGreatMTx
import Derived.Test.YtdlpnhfgjficgaaGreatMRg
namespace Go.Proofs.YtdlpnhfgjficgaaGreat
section
set_option maxHeartbeats 4000000
set_option maxRecDepth 8000
open Go.RowKit Go.Maps Go.Shelf Go.Sort
theorem bs_list9 (l:List UInt8):(bs l).toList=l:=ByteArray.toList_mk l
theorem bs_beq9 (a b:List UInt8):((bs a).toList == (bs b).toList)=decide (a=b):=by
 rw [bs_list9,bs_list9];by_cases h:a=b <;> simp [h]
theorem pure4 (w:World) (a b c d:Obj):Pure w ((((w.alloc a).alloc b).alloc c).alloc d) :=
 ((qp.alloc qb _).alloc qc _).alloc qc _
theorem both_eq (ax ay bx by_:Int) (aq ab bq bb:List UInt8) (ac bc:Int) (A E C:Bool) (hA:tlt bq aq=A) (hE:decide (bq=aq)=E) (hC:tlt bb ab=C) :
 mv (bothM ((ax,ay),aq,ab,ac) ((bx,by_),bq,bb,bc))=if (A || (E && C))=true then .agg #[.int .i64 bx,.int .i64 by_,.string (bs bq),.string (bs bb),.int .i64 (max ac bc)] else .agg #[.int .i64 ax,.int .i64 ay,.string (bs aq),.string (bs ab),.int .i64 (max ac bc)]:=by
 unfold bothM qlt mv
 dsimp only
 rw [hA,hE,hC]
 by_cases h:(A || (E && C))=true
 ·rw [if_pos h,if_pos h]
 ·rw [if_neg h,if_neg h]
theorem rboth_any (a b:Msg) (w:World) :
 Calls Tryz.prog 115 #[mv a,mv b] w fun e w'=>e=.returned (mv (bothM a b))∧Pure w w':=by
 obtain ⟨⟨ax,ay⟩,aq,ab,ac⟩:=a
 obtain ⟨⟨bx,by_⟩,bq,bb,bc⟩:=b
 have hA:Op.bytesLess (bs bq).toList (bs aq).toList=tlt bq aq:=by rw [bs_list9,bs_list9];rfl
 have hC:Op.bytesLess (bs bb).toList (bs ab).toList=tlt bb ab:=by rw [bs_list9,bs_list9];rfl
 have hE:=bs_beq9 bq aq
 have hE2:((bs bq).toList=(bs aq).toList)=(decide (bq=aq)=true):=by rw [bs_list9,bs_list9];simp
 have Hb:=hid (both_eq ax ay bx by_ aq ab bq bb ac bc _ _ _ rfl rfl rfl)
 generalize tlt bq aq=A at *
 generalize tlt bb ab=C at *
 generalize decide (bq=aq)=E at *
 rw [Hb.out]
 clear Hb
 unfold mv
 dsimp only
 generalize bs aq=Qa at *
 generalize bs ab=Ba at *
 generalize bs bq=Qb at *
 generalize bs bb=Bb at *
 have hp:=hid (pure4 w)
 have hm1:bc > ac→max ac bc=bc:=fun h=>by omega
 have hm2:¬bc > ac→max ac bc=ac:=fun h=>by omega
 have Hm1:=hid hm1
 have Hm2:=hid hm2
 clear hm1 hm2
 go_enter Tryz.func115,Tryz.ntmps115
 by_cases hc:bc > ac
 ·rw [Hm1.out hc]
  cases A <;> cases E <;> cases C <;>
  ·go_wp2
   exact bodyPost_ret (v:=.agg _) (by simp [results,Tryz.results115,go_sem];rfl) rfl ⟨by simp,hp.out _ _ _ _⟩
 ·rw [Hm2.out hc]
  cases A <;> cases E <;> cases C <;>
  ·go_wp2
   exact bodyPost_ret (v:=.agg _) (by simp [results,Tryz.results115,go_sem];rfl) rfl ⟨by simp,hp.out _ _ _ _⟩
theorem cmps_any (a b:List UInt8) (w:World):Calls Tryz.prog 148 #[.string (bs a),.string (bs b)] w fun e w'=>e=.returned (.int .i64 (Lib.compareBytes a b))∧w'=w :=
 (Tryz.strings_Compare (bs a) (bs b) w).mono fun _ _ h=>by simpa [bs] using h
theorem both_any (a b:Msg) (w:World) :
 Calls Tryz.prog 146 #[mv a,mv b] w fun e w'=>e=.returned (mv (bothM a b))∧Pure w w':=by
 obtain ⟨⟨ax,ay⟩,aq,ab,ac⟩:=a
 obtain ⟨⟨bx,by_⟩,bq,bb,bc⟩:=b
 have hA:=hid (fun W=>cmps_any bq aq W)
 have hC:=hid (fun W=>cmps_any bb ab W)
 have hE:=bs_beq9 bq aq
 have hE2:((bs bq).toList=(bs aq).toList)=(decide (bq=aq)=true):=by rw [bs_list9,bs_list9];simp
 have Hb:=hid (both_eq ax ay bx by_ aq ab bq bb ac bc _ _ _ (tlt_cmp bq aq) rfl (tlt_cmp bb ab))
 generalize Lib.compareBytes bq aq=cA at *
 generalize Lib.compareBytes bb ab=cC at *
 generalize decide (bq=aq)=E at *
 rw [Hb.out]
 clear Hb
 unfold mv
 dsimp only
 generalize bs aq=Qa at *
 generalize bs ab=Ba at *
 generalize bs bq=Qb at *
 generalize bs bb=Bb at *
 have hp:=hid (pure4 w)
 go_enter Tryz.func146,Tryz.ntmps146
 by_cases hcA:cA<0
 ·rw [decide_eq_true hcA]
  go_wp2_with fail
  refine (hA.out _).mono ?_
  rintro e w1 ⟨rfl,rfl⟩
  go_wp2
  exact bodyPost_ret (v:=.agg _) (by simp [results,Tryz.results146,go_sem];rfl) rfl ⟨by simp,hp.out _ _ _ _⟩
 ·rw [decide_eq_false hcA]
  cases E
  ·go_wp2_with fail
   refine (hA.out _).mono ?_
   rintro e w1 ⟨rfl,rfl⟩
   go_wp2
   exact bodyPost_ret (v:=.agg _) (by simp [results,Tryz.results146,go_sem];rfl) rfl ⟨by simp,hp.out _ _ _ _⟩
  ·by_cases hcC:cC<0
   ·rw [decide_eq_true hcC]
    go_wp2_with fail
    refine (hA.out _).mono ?_
    rintro e w1 ⟨rfl,rfl⟩
    go_wp2_with fail
    refine (hC.out _).mono ?_
    rintro e w1 ⟨rfl,rfl⟩
    go_wp2
    exact bodyPost_ret (v:=.agg _) (by simp [results,Tryz.results146,go_sem];rfl) rfl ⟨by simp,hp.out _ _ _ _⟩
   ·rw [decide_eq_false hcC]
    go_wp2_with fail
    refine (hA.out _).mono ?_
    rintro e w1 ⟨rfl,rfl⟩
    go_wp2_with fail
    refine (hC.out _).mono ?_
    rintro e w1 ⟨rfl,rfl⟩
    go_wp2
    exact bodyPost_ret (v:=.agg _) (by simp [results,Tryz.results146,go_sem];rfl) rfl ⟨by simp,hp.out _ _ _ _⟩
end
section
set_option maxHeartbeats 4000000
set_option maxRecDepth 8000
open Go.RowKit Go.Maps Go.Shelf
theorem within_any (n l m:Int) (w:World):Calls Tryz.prog 213 #[.int .i64 n,.int .i64 l,.int .i64 m] w fun e w'=>e=.returned (.bool (decide (l≤n) && decide (n≤m)))∧w=w':=by
 by_cases h:l≤n
 ·have h' : n ≥ l:=h
  go_enter Tryz.func213,Tryz.ntmps213
  go_wp2
  go_ret
  exact ⟨ret_bool (by simp [h]),rfl⟩
 ·have h' : ¬n ≥ l:=h
  go_enter Tryz.func213,Tryz.ntmps213
  go_wp2
  go_ret
  exact ⟨ret_bool qc,rfl⟩
theorem pmay_of (x y z:Int):pmay ⟨x,y,z⟩=((decide (1≤x) && decide (x≤1099511627776)) && ((decide (0≤y) && decide (y≤1073741824)) && (decide (0≤z) && decide (z≤2)))):=by
 unfold pmay;simp only [Bool.and_assoc]
theorem vmay_any (p:Pr) (w:World):Calls Tryz.prog 190 #[pv p] w fun e w'=>e=.returned (.bool (pmay p))∧Pure w w':=by
 obtain ⟨x,y,z⟩:=p
 rw [pmay_of]
 have h1:=hid (within_any x 1 1099511627776)
 have h2:=hid (within_any y 0 1073741824)
 have h3:=hid (within_any z 0 2)
 have hp:=qh (∀o,Pure w (w.alloc o)) (fun o=>(Below.refl _ _).alloc (Nat.le_refl _) o)
 unfold pv
 dsimp only
 generalize (decide (1≤x) && decide (x≤1099511627776))=B1 at *
 generalize (decide (0≤y) && decide (y≤1073741824))=B2 at *
 generalize (decide (0≤z) && decide (z≤2))=B3 at *
 go_enter Tryz.func190,Tryz.ntmps190
 cases B1 with
 | false =>
   go_wp2_with fail
   refine (h1.out _).mono ?_
   rintro e w1 ⟨rfl,rfl⟩
   go_wp2
   go_ret
   exact ⟨rfl,hp.out _⟩
 | true =>
   go_wp2_with fail
   refine (h1.out _).mono ?_
   rintro e w1 ⟨rfl,rfl⟩
   go_wp2_with fail
   refine (h2.out _).mono ?_
   rintro e w1 ⟨rfl,rfl⟩
   cases B2 with
   | false =>
     go_wp2
     go_ret
     exact ⟨rfl,hp.out _⟩
   | true =>
     go_wp2_with fail
     refine (h3.out _).mono ?_
     rintro e w1 ⟨rfl,rfl⟩
     go_wp2
     go_ret
     exact ⟨rfl,hp.out _⟩
theorem vchk_any (v:Value) (l:List Pr) (w:World) (hr:Peers w v l) (hl:l.length≤100000) :
 Calls Tryz.prog 149 #[v] w fun e w'=>e=.returned (.int .i64 (er1 (vchk l)))∧Pure w w':=by
 obtain ⟨a,cap,rfl⟩:=Peers.shape hr
 obtain ⟨C,hC⟩:=qe (vchk l)
 rw [←hC]
 by_cases h100:l.length≤64
 ·have HB:=qh (∀k,k<l.length→vat l k=false→C=false) (fun k h e=>by rw [hC];unfold vchk;rw [allB_false h e,Bool.and_false])
  have HE:=qh (allB l.length (vat l)=true→C=true) (fun h=>by rw [hC];unfold vchk;rw [h,decide_eq_true h100];rfl)
  have Hr:=hid hr
  have hmay:=hid vmay_any
  have h100' : ¬(l.length:Int) > 64:=by omega
  clear hr hC
  go_enter Tryz.func149,Tryz.ntmps149
  go_wp2_with fail
  go_loopw [10] (fun i wr=>∃k:Nat,k≤l.length∧i=.int .i64 k∧allB k (vat l)=true∧Pure w wr) (fun i _=>l.length-(RowKit.intOf i).toNat)
  case atStart=>exact ⟨0,Nat.zero_le _,rfl,rfl,Below.refl _ _⟩
  case round =>
   obtain ⟨k,hk,rfl,hal,hp⟩:=hrel
   have Hal:=hid hal
   have Hp:=hid hp
   clear hal
   by_cases hlt:k<l.length
   ·have hlt' : (k:Int)<(l.length:Int):=by omega
    have hk0:(0:Int)≤(k:Int):=by omega
    have Hrow:=qh (Peers wr (.slice a l.length cap) l) (Row.pure Hr.out hp)
    obtain ⟨b,off,rfl,hb,x0,x1,x2⟩:=Peers.get Hrow.out hlt
    have Hno:=hid (fun (e:vat l k=false)=>HB.out k hlt e)
    have Hyes:=hid (fun (e:vat l k=true)=>allB_next Hal.out e)
    have Htat:=qh (vat l k=(pmay (l.getD k p0) && (decide (k=0) || decide ((l.getD (k-1) p0).id<(l.getD k p0).id)))) (rfl)
    have hprev:=hid (fun (h0:0<k)=>(show wr.cell? ⟨b,off+(k-1)*3,none⟩=some (.int .i64 (l.getD (k-1) p0).id) from by
     obtain ⟨b',off',e',_,y0,_⟩:=Peers.get Hrow.out (show k-1<l.length by omega)
     cases e';exact y0))
    have hmy:=hid (hmay.out (l.getD k p0))
    generalize l.getD (k-1) p0=y at *
    generalize l.getD k p0=z at *
    obtain ⟨zi,zn,zs⟩:=z
    obtain ⟨yi,yn,ys⟩:=y
    unfold pv at hmy
    dsimp only at x0 x1 x2 Htat hmy hprev
    obtain ⟨Wd,hWd⟩:=qe (wr.alloc (.cells #[.int .i64 zi,.int .i64 zn,.int .i64 zs] 92))
    have Hpd:=qh (Pure wr Wd) (by rw [hWd];exact qp)
    have Hbd:=qh (Wd.heap[wr.heap.size]?=some (.cells #[.int .i64 zi,.int .i64 zn,.int .i64 zs] 92 (0,0))) (by rw [hWd];exact ban _ _)
    have Hwb:=hid (fun W (hW:Pure Wd W)=>(Pure.then_ Hpd.out hW).cell (p:=⟨b,off+(k-1)*3,none⟩) hb)
    clear hp
    generalize pmay ⟨zi,zn,zs⟩=D1 at *
    cases D1 with
    | false =>
      have HF:=hid (Hno.out (by rw [Htat.out];rfl))
      clear Hyes Hno Htat hprev
      have hS:Hid (∀W,Pure Wd W→(W.cell? ⟨wr.heap.size,0,none⟩=some (.int .i64 zi)∧W.cell? ⟨wr.heap.size,1,none⟩=some (.int .i64 zn)∧W.cell? ⟨wr.heap.size,2,none⟩=some (.int .i64 zs)∧Pure Wd W)):=fun W hW=>by
       have ed:=(hW.block _ (lob Hbd.out)).trans Hbd.out
       exact ⟨cob ed 0,cob ed 1,cob ed 2,hW⟩
      have hst:=hid (hS.out Wd.drew qv)
      have hS2:Hid (∀W:World,(W.cell? ⟨wr.heap.size,0,none⟩=some (.int .i64 zi)∧W.cell? ⟨wr.heap.size,1,none⟩=some (.int .i64 zn)∧W.cell? ⟨wr.heap.size,2,none⟩=some (.int .i64 zs)∧Pure Wd W)→Pure Wd W):=fun W h=>h.2.2.2
      go_wp2_with fail
      rw [←hWd]
      clear hWd x0 x1 x2
      refine wp_region_held_drew (S:=(fun W=>W.cell? ⟨wr.heap.size,0,none⟩=some (.int .i64 zi)∧W.cell? ⟨wr.heap.size,1,none⟩=some (.int .i64 zn)∧W.cell? ⟨wr.heap.size,2,none⟩=some (.int .i64 zs)∧Pure Wd W)) qk ?_ (fun hHeld=>?_)
      ·exact qz
      refine tkA 0 ?_
      refine tkC 1 fun K hK=>?_
      go_simp
      go_at_call 190;(with_reducible refine (hmy.out _).mono ?_);rintro e w7 ⟨rfl,hp7⟩;go_wp2_with fail
      refine hK.out _ _ qz fun hHeld=>?_
      clear hK K
      refine tkA 2 ?_
      refine tkA 3 ?_
      refine tkU 4 ?_
      refine tkU 5 ?_
      refine tkU 6 ?_
      refine tkU 7 ?_
      refine tkU 8 ?_
      refine tkU 9 ?_
      refine tkU 10 ?_
      refine tkU 11 ?_
      refine tkU 12 ?_
      refine tkU 13 ?_
      refine tkU 14 ?_
      refine tkU 15 ?_
      refine tkU 16 ?_
      refine tkA 17 ?_
      refine wpAnyH_done qk ?_ _
      have hx:=hid (hS2.out w7 qa)
      go_wp2
      go_ret
      exact ⟨by rw [HF.out];rfl,Hp.out.then_ (Pure.then_ Hpd.out hx.out)⟩
    | true =>
      by_cases c4:k=0
      ·subst c4
       have HT:=hid (Hyes.out (by rw [Htat.out];rfl))
       clear Hyes Hno Htat hprev
       simp only [Nat.zero_mul,Nat.add_zero] at x0 x1 x2
       have hS:Hid (∀W,Pure Wd W→(W.cell? ⟨wr.heap.size,0,none⟩=some (.int .i64 zi)∧W.cell? ⟨wr.heap.size,1,none⟩=some (.int .i64 zn)∧W.cell? ⟨wr.heap.size,2,none⟩=some (.int .i64 zs)∧Pure Wd W)):=fun W hW=>by
        have ed:=(hW.block _ (lob Hbd.out)).trans Hbd.out
        exact ⟨cob ed 0,cob ed 1,cob ed 2,hW⟩
       have hst:=hid (hS.out Wd.drew qv)
       have hS2:Hid (∀W:World,(W.cell? ⟨wr.heap.size,0,none⟩=some (.int .i64 zi)∧W.cell? ⟨wr.heap.size,1,none⟩=some (.int .i64 zn)∧W.cell? ⟨wr.heap.size,2,none⟩=some (.int .i64 zs)∧Pure Wd W)→Pure Wd W):=fun W h=>h.2.2.2
       go_wp2_with fail
       rw [←hWd]
       clear hWd x0 x1 x2
       refine wp_region_held_drew (S:=(fun W=>W.cell? ⟨wr.heap.size,0,none⟩=some (.int .i64 zi)∧W.cell? ⟨wr.heap.size,1,none⟩=some (.int .i64 zn)∧W.cell? ⟨wr.heap.size,2,none⟩=some (.int .i64 zs)∧Pure Wd W)) qk ?_ (fun hHeld=>?_)
       ·exact qz
       refine tkA 0 ?_
       refine tkC 1 fun K hK=>?_
       go_simp
       go_at_call 190;(with_reducible refine (hmy.out _).mono ?_);rintro e w7 ⟨rfl,hp7⟩;go_wp2_with fail
       refine hK.out _ _ qz fun hHeld=>?_
       clear hK K
       refine tkA 2 ?_
       refine tkA 3 ?_
       refine tkA 4 ?_
       refine tkA 5 ?_
       refine tkA 6 ?_
       refine tkU 7 ?_
       refine tkU 8 ?_
       refine tkU 9 ?_
       refine tkU 10 ?_
       refine tkU 11 ?_
       refine tkU 12 ?_
       refine tkU 13 ?_
       refine tkU 14 ?_
       refine tkU 15 ?_
       refine tkA 16 ?_
       refine tkA 17 ?_
       refine wpAnyH_done qk ?_ _
       have hx:=hid (hS2.out w7 qa)
       go_wp2
       go_roundw
       case rel=>exact ⟨0+1,by omega,by go_num,HT.out,Hp.out.then_ (Pure.then_ Hpd.out hx.out)⟩
       case measure=>simp [RowKit.intOf];omega
      ·have h0' : decide ((k:Int) > 0)=true:=decide_eq_true oe
       have h0'' : decide (0<k)=true:=decide_eq_true oe
       have hsub:IntKind.i64.wrap ((k:Int)-1)=((k-1:Nat):Int):=by rw [IntWalk.i64_in _ oe];omega
       have hsub2:(k:Int)-1=((k-1:Nat):Int):=by omega
       have hlt2:((k-1:Nat):Int)<(l.length:Int):=by omega
       have y0:=hprev.out oe
       have hn:(0:Int)≤((k-1:Nat):Int):=by omega
       have HT':=hid (fun (e:yi<zi)=>Hyes.out (by rw [Htat.out,decide_eq_true e,Bool.or_true];rfl))
       have HF':=hid (fun (e:¬yi<zi)=>Hno.out (by rw [Htat.out,decide_eq_false e,decide_eq_false c4];rfl))
       have hwm:IntKind.i64.wrap ((k-1:Nat):Int)=((k-1:Nat):Int):=IntWalk.i64_in _ oe
       clear Hyes Hno Htat hprev
       by_cases hD:yi<zi
       ·have HT:=hid (HT'.out hD)
        have hD1:decide (yi ≥ zi)=false:=decide_eq_false oe
        have hD2:decide (zi≤yi)=false:=decide_eq_false oe
        clear HT' HF'
        have hS:Hid (∀W,Pure Wd W→(W.cell? ⟨wr.heap.size,0,none⟩=some (.int .i64 zi)∧W.cell? ⟨wr.heap.size,1,none⟩=some (.int .i64 zn)∧W.cell? ⟨wr.heap.size,2,none⟩=some (.int .i64 zs)∧W.cell? ⟨b,off+(k-1)*3,none⟩=some (.int .i64 yi)∧Pure Wd W)):=fun W hW=>by
         have ed:=(hW.block _ (lob Hbd.out)).trans Hbd.out
         exact ⟨cob ed 0,cob ed 1,cob ed 2,(Hwb.out W hW).trans y0,hW⟩
        have hst:=hid (hS.out Wd.drew qv)
        have hS2:Hid (∀W:World,(W.cell? ⟨wr.heap.size,0,none⟩=some (.int .i64 zi)∧W.cell? ⟨wr.heap.size,1,none⟩=some (.int .i64 zn)∧W.cell? ⟨wr.heap.size,2,none⟩=some (.int .i64 zs)∧W.cell? ⟨b,off+(k-1)*3,none⟩=some (.int .i64 yi)∧Pure Wd W)→Pure Wd W):=fun W h=>h.2.2.2.2
        generalize hj:k-1=j at *
        go_wp2_with fail
        rw [←hWd]
        clear hWd x0 x1 x2
        refine wp_region_held_drew (S:=(fun W=>W.cell? ⟨wr.heap.size,0,none⟩=some (.int .i64 zi)∧W.cell? ⟨wr.heap.size,1,none⟩=some (.int .i64 zn)∧W.cell? ⟨wr.heap.size,2,none⟩=some (.int .i64 zs)∧W.cell? ⟨b,off+j*3,none⟩=some (.int .i64 yi)∧Pure Wd W)) qk ?_ (fun hHeld=>?_)
        ·exact qz
        refine tkA 0 ?_
        refine tkC 1 fun K hK=>?_
        go_simp
        go_at_call 190;(with_reducible refine (hmy.out _).mono ?_);rintro e w7 ⟨rfl,hp7⟩;go_wp2_with fail
        refine hK.out _ _ qz fun hHeld=>?_
        clear hK K
        refine tkA 2 ?_
        refine tkA 3 ?_
        refine tkA 4 ?_
        refine tkA 5 ?_
        refine tkA 6 ?_
        refine tkA 7 ?_
        refine tkA 8 ?_
        refine tkA 9 ?_
        refine tkA 10 ?_
        refine tkA 11 ?_
        refine tkA 12 ?_
        refine tkA 13 ?_
        refine tkA 14 ?_
        refine tkA 15 ?_
        refine tkA 16 ?_
        refine tkA 17 ?_
        refine wpAnyH_done qk ?_ _
        have hx:=hid (hS2.out w7 qa)
        go_wp2
        go_roundw
        case rel=>exact ⟨k+1,by omega,by go_num,HT.out,Hp.out.then_ (Pure.then_ Hpd.out hx.out)⟩
        case measure=>simp [RowKit.intOf];omega
       ·have HF:=hid (HF'.out hD)
        have hD1:decide (yi ≥ zi)=true:=decide_eq_true oe
        have hD2:decide (zi≤yi)=true:=decide_eq_true oe
        clear HT' HF'
        have hS:Hid (∀W,Pure Wd W→(W.cell? ⟨wr.heap.size,0,none⟩=some (.int .i64 zi)∧W.cell? ⟨wr.heap.size,1,none⟩=some (.int .i64 zn)∧W.cell? ⟨wr.heap.size,2,none⟩=some (.int .i64 zs)∧W.cell? ⟨b,off+(k-1)*3,none⟩=some (.int .i64 yi)∧Pure Wd W)):=fun W hW=>by
         have ed:=(hW.block _ (lob Hbd.out)).trans Hbd.out
         exact ⟨cob ed 0,cob ed 1,cob ed 2,(Hwb.out W hW).trans y0,hW⟩
        have hst:=hid (hS.out Wd.drew qv)
        have hS2:Hid (∀W:World,(W.cell? ⟨wr.heap.size,0,none⟩=some (.int .i64 zi)∧W.cell? ⟨wr.heap.size,1,none⟩=some (.int .i64 zn)∧W.cell? ⟨wr.heap.size,2,none⟩=some (.int .i64 zs)∧W.cell? ⟨b,off+(k-1)*3,none⟩=some (.int .i64 yi)∧Pure Wd W)→Pure Wd W):=fun W h=>h.2.2.2.2
        generalize hj:k-1=j at *
        go_wp2_with fail
        rw [←hWd]
        clear hWd x0 x1 x2
        refine wp_region_held_drew (S:=(fun W=>W.cell? ⟨wr.heap.size,0,none⟩=some (.int .i64 zi)∧W.cell? ⟨wr.heap.size,1,none⟩=some (.int .i64 zn)∧W.cell? ⟨wr.heap.size,2,none⟩=some (.int .i64 zs)∧W.cell? ⟨b,off+j*3,none⟩=some (.int .i64 yi)∧Pure Wd W)) qk ?_ (fun hHeld=>?_)
        ·exact qz
        refine tkA 0 ?_
        refine tkC 1 fun K hK=>?_
        go_simp
        go_at_call 190;(with_reducible refine (hmy.out _).mono ?_);rintro e w7 ⟨rfl,hp7⟩;go_wp2_with fail
        refine hK.out _ _ qz fun hHeld=>?_
        clear hK K
        refine tkA 2 ?_
        refine tkA 3 ?_
        refine tkA 4 ?_
        refine tkA 5 ?_
        refine tkA 6 ?_
        refine tkA 7 ?_
        refine tkA 8 ?_
        refine tkA 9 ?_
        refine tkA 10 ?_
        refine tkA 11 ?_
        refine tkA 12 ?_
        refine tkA 13 ?_
        refine tkA 14 ?_
        refine tkA 15 ?_
        refine tkA 16 ?_
        refine tkA 17 ?_
        refine wpAnyH_done qk ?_ _
        have hx:=hid (hS2.out w7 qa)
        go_wp2
        go_ret
        exact ⟨by rw [HF.out];rfl,Hp.out.then_ (Pure.then_ Hpd.out hx.out)⟩
   ·have hlt' : ¬(k:Int)<(l.length:Int):=by omega
    obtain rfl:k=l.length:=by omega
    have HT:=hid (HE.out Hal.out)
    go_wp2
    go_ret
    exact ⟨by rw [HT.out];rfl,Hp.out⟩
 ·have hC2:C=false:=by rw [hC];unfold vchk;rw [decide_eq_false h100];rfl
  subst hC2
  have h100' : (l.length:Int) > 64:=by omega
  go_enter Tryz.func149,Tryz.ntmps149
  go_wp2
  go_ret
  exact ⟨rfl,Below.refl _ _⟩
end
section
set_option maxHeartbeats 4000000
set_option maxRecDepth 8000
open Go.RowKit Go.Maps Go.Shelf
theorem rdTag_none:(rdTag none).2=none:=rfl
theorem tread_any (b:Nat) (s:RS) (w:World) (h:RdAt 117 b s w) :
 Calls Tryz.prog 92 #[.pointer (some ⟨b,0,none⟩)] w (RdRowG tcells 2 117 b (rdTags s).1 (rdTags s).2 w):=by
 have Hb:=hid h.lt
 have hi1:=hid (mintr_any b s 100 w h qd qd)
 have hbd:=rdInt_bd 100 s
 have hz:=rdInt_zero 100 s
 have Hr:Hid (rdTags s=match rdItems rdTag (rdInt 100 s).1.toNat [] (rdInt 100 s).2 with
  | (_,none)=>([],none)
  | (l,some r)=>if tchk l then (l,some r) else ([],none)):=(show _=_ from rfl)
 have hfine:=hid (fun s W (hW:RdAt 117 b s W)=>fine_any b s W hW)
 have htext:=hid (fun s W (hW:RdAt 117 b s W)=>mtextr_any b s 100 W hW qd qd)
 have hcnt:=hid (fun s W (hW:RdAt 117 b s W)=>mintr_any b s 1048576 W hW qd qd)
 have hneg:=hid (fun s W (hW:RdAt 117 b s W)=>(show Calls _ _ _ _ _ from by have:=mintr_any b s (-1) W hW qd qd;rw [rdInt_neg (-1) qd] at this;exact this))
 have hchk:=hid (fun v l W (hW:Tags W v l) hl=>tchk_any v l W hW hl)
 have Hw:=qh (RdOwn tcells 2 90 117 b (.slice none 0 0) [] s w w) (⟨RdK.start h,World.ownsRow_nil _ _ _ _,h.lt⟩)
 unfold RdP at hi1 htext hcnt hneg
 generalize rdTags s=R at *
 generalize rdInt 100 s=N1 at *
 obtain ⟨x,s1⟩:=N1
 dsimp only at hi1 hbd Hr hz
 obtain ⟨n,rfl⟩ : ∃n:Nat,x=n:=⟨x.toNat,by omega⟩
 have Hr2:=hid Hr.out
 rw [Int.toNat_natCast] at Hr2
 have Hst:=hid (RdIn.start rdTag n s1 (fun e=>by have:=hz e;omega))
 obtain ⟨total,htot⟩:=qe (rdItems rdTag n [] s1)
 rw [←htot] at Hr2 Hst
 have hbn:=hbd.2 oe
 clear h hbd Hr htot hz
 go_enter Tryz.func92,Tryz.ntmps92
 go_wp2_with fail
 refine hi1.out.mono ?_
 rintro e w1 ⟨rfl,hr1,hk1⟩
 have H1:=hid (Hw.out.next hr1 hk1)
 clear hr1 hk1
 go_wp2_with fail
 go_loopw [3,7] (fun v i wr=>∃(k:Nat) (acc:List Tag) (s:RS),i=.int .i64 k∧k≤n∧acc.length=k∧RdOwn tcells 2 90 117 b v acc s w wr∧RdIn rdTag total (n-k) acc s) (fun _ i _=>n-(RowKit.intOf i).toNat)
 case atStart=>exact ⟨0,[],s1,rfl,Nat.zero_le _,rfl,H1.out,Hst.out⟩
 case round =>
  obtain ⟨k,acc,s,rfl,hkn,hlen,hI,hin⟩:=hrel
  have HI:=hid hI
  have Hin:=hid hin
  have Hlen:=hid hlen
  have hl100:acc.length≤100:=by omega
  obtain ⟨a,c,rfl⟩:=osd hI.own
  clear hI hin hlen
  by_cases hlt:k<n
  ·have hlt' : (k:Int)<(n:Int):=by omega
   have Hstep:=hid (RdIn.step (m:=n-(k+1)) rdTag_none (by have:=Hin.out;rw [show n-k=(n-(k+1))+1 by omega] at this;exact this))
   have hM:rdTag s=(((rdX 100 s).1,(rdInt 1048576 (rdX 100 s).2).1),(rdInt 1048576 (rdX 100 s).2).2):=rfl
   rw [hM] at Hstep
   have h1:=hid (htext.out s)
   have h2:=hid (hcnt.out (rdX 100 s).2)
   clear hM
   generalize rdInt 1048576 (rdX 100 s).2=N2 at *
   generalize rdX 100 s=N1 at *
   obtain ⟨q,t1⟩:=N1
   obtain ⟨ct,t2⟩:=N2
   dsimp only at h1 h2 Hstep
   go_wp2_with fail
   refine (h1.out wr HI.out.r.r).mono ?_
   rintro e w3 ⟨rfl,hr3,hk3⟩
   have I3:=hid (HI.out.next hr3 hk3)
   obtain ⟨y3,hy3⟩:=qe (w3.alloc (.cells #[.string (bs q),.int .i64 0] 90))
   have J3:=qh (RdOwn tcells 2 90 117 b (.slice a acc.length c) acc t1 w y3) (by rw [hy3];exact I3.out.alloc _)
   have M3:=qh (y3.heap[w3.heap.size]?=some (.cells #[.string (bs q),.int .i64 0] 90 (0,0))) (by rw [hy3];exact ban _ _)
   have nm:=qh (w.heap.size≤w3.heap.size∧(∀j,(Value.slice a acc.length c).ownBlock=some j→j≠w3.heap.size)) (⟨I3.out.r.k.size,fun j hj e=>by have:=(I3.out.own.lt j hj).2;omega⟩)
   clear hr3 hk3 I3 h1
   go_wp2_with fail
   rw [←hy3]
   clear hy3
   generalize w3.heap.size=m at *
   refine (h2.out y3 J3.out.r.r).mono ?_
   rintro e w4 ⟨rfl,hr4,hk4⟩
   have I4:=hid (J3.out.next hr4 hk4)
   have M4:=hid (block_kept M3.out hk4 (by have:=nm.out.1;have:=J3.out.wb;omega))
   have e1:=cob M4.out 1
   have f1:=fob M4.out 1
   simp at e1
   obtain ⟨y4,hy4⟩:=qe (w4.setCell ⟨m,1,none⟩ (.int .i64 ct))
   have J4:=qh (RdOwn tcells 2 90 117 b (.slice a acc.length c) acc t2 w y4) (by rw [hy4];exact I4.out.set nm.out.1 nm.out.2 _)
   have N4:=qh (y4.heap[m]?=some (.cells #[.string (bs q),.int .i64 ct] 90 (0,0))) (by rw [hy4];have:=bsc M4.out 1 (.int .i64 ct);simpa using this)
   clear hr4 hk4 I4 M4 J3 M3 h2
   go_upto_region 6 with fail
   rw [←hy4]
   clear hy4 e1 f1
   have g0:=cob N4.out 0
   have g1:=cob N4.out 1
   simp at g0 g1
   have hs6:w.heap.size≤(y4.alloc (.cells #[.string (bs q),.int .i64 ct] 90)).heap.size:=by have:=J4.out.r.k.size;simp;omega
   go_wp2_with (at_builtin;refine wpList_append_tags rfl _ _ rfl w.heap.size _ acc acc.length rfl (J4.out.own.alloc _) _ [(q,ct)] 1 rfl (tags_lit y4 (q,ct)) oe hs6 ?_)
   intro v7 w7 hown7 hg7
   have Hown7:=qh (w7.ownsRow w.heap.size 90 2 v7 (acc++[(q,ct)]).length (gvs tcells (acc++[(q,ct)]))) (by rw [List.length_append];exact hown7)
   have J7:=hid ((J4.out.alloc _).grow hg7 Hown7.out)
   obtain ⟨a7,c7,rfl⟩:=osd hown7
   clear hown7 hg7 g0 g1 hs6
   go_wp2
   go_roundw
   case rel=>exact ⟨k+1,acc++[(q,ct)],t2,by go_num,by omega,by simp [Hlen.out],J7.out,Hstep.out⟩
   case measure=>simp [RowKit.intOf];omega
  ·obtain rfl:k=n:=by omega
   have hlt' : ¬(k:Int)<(k:Int):=by omega
   have Htt:=hid (RdIn.fin (by have:=Hin.out;rw [Nat.sub_self] at this;exact this))
   go_wp2_with fail
   refine (hfine.out s wr HI.out.r.r).mono ?_
   rintro e w3 ⟨rfl,hp3⟩
   have J3:=hid (HI.out.pure hp3)
   clear hp3
   cases s with
   | none =>
     have HR:=qh (R=([],none)) (by rw [Hr2.out,Htt.out])
     go_wp2_with fail
     refine (hneg.out none w3 J3.out.r.r).mono ?_
     rintro e w5 ⟨rfl,hr5,hk5⟩
     have J5:=hid (J3.out.next hr5 hk5)
     clear hr5 hk5
     go_wp2
     go_ret
     exact J5.out.none_ (by rw [HR.out]) (by rw [HR.out])
   | some r =>
     have HRr:=qh (R=if tchk acc then (acc,some r) else ([],none)) (by rw [Hr2.out,Htt.out])
     have hcb:=hid (hchk.out _ _ w3 J3.out.row oe)
     unfold er1 at hcb
     generalize tchk acc=V at *
     go_wp2_with fail
     refine hcb.out.mono ?_
     rintro e w4 ⟨rfl,hp4⟩
     have J4:=hid (J3.out.pure hp4)
     clear hp4
     cases V with
     | false =>
       have HR:=qh (R=([],none)) (HRr.out)
       go_wp2_with fail
       refine (hneg.out (some r) w4 J4.out.r.r).mono ?_
       rintro e w5 ⟨rfl,hr5,hk5⟩
       have J5:=hid (J4.out.next hr5 hk5)
       clear hr5 hk5
       go_wp2
       go_ret
       exact J5.out.none_ (by rw [HR.out]) (by rw [HR.out])
     | true =>
       have HR:=qh (R=(acc,some r)) (HRr.out)
       go_wp2
       go_ret
       exact J4.out.done (by rw [HR.out]) (by rw [HR.out])
end
end Go.Proofs.YtdlpnhfgjficgaaGreat
