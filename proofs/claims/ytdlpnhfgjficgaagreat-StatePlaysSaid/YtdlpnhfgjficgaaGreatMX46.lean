import Derived.Test.YtdlpnhfgjficgaaGreatEC
import Derived.Test.YtdlpnhfgjficgaaGreatVQ
namespace Go.Proofs.YtdlpnhfgjficgaaGreat
section
set_option maxHeartbeats 4000000
set_option maxRecDepth 8000
open Go.RowKit Go.Maps Go.Shelf Go.Sort
theorem rmay9_any (p:Pr) (w:World):Calls Tryz.prog 165 #[pv p] w fun e w'=>e=.returned (.bool (pmay p))∧Pure w w':=by
 obtain ⟨x,y,z⟩:=p
 have hp:=qh (∀o,Pure w (w.alloc o)) (fun o=>(Below.refl _ _).alloc (Nat.le_refl _) o)
 unfold pv pmay
 dsimp only
 by_cases h0:1≤x
 ·skip
  by_cases h1:x≤1099511627776
  ·skip
   by_cases h2:0≤y
   ·skip
    by_cases h3:y≤1073741824
    ·skip
     by_cases h4:0≤z
     ·skip
      by_cases h5:z≤2
      ·skip
       go_enter Tryz.func165,Tryz.ntmps165
       go_wp2
       go_ret
       exact ⟨ret_bool (by simp [h0,h1,h2,h3,h4,h5]),hp.out _⟩
      ·skip
       go_enter Tryz.func165,Tryz.ntmps165
       go_wp2
       go_ret
       exact ⟨ret_bool qc,hp.out _⟩
     ·skip
      go_enter Tryz.func165,Tryz.ntmps165
      go_wp2
      go_ret
      exact ⟨ret_bool qc,hp.out _⟩
    ·skip
     go_enter Tryz.func165,Tryz.ntmps165
     go_wp2
     go_ret
     exact ⟨ret_bool qc,hp.out _⟩
   ·skip
    go_enter Tryz.func165,Tryz.ntmps165
    go_wp2
    go_ret
    exact ⟨ret_bool qc,hp.out _⟩
  ·skip
   go_enter Tryz.func165,Tryz.ntmps165
   go_wp2
   go_ret
   exact ⟨ret_bool qc,hp.out _⟩
 ·skip
  go_enter Tryz.func165,Tryz.ntmps165
  go_wp2
  go_ret
  exact ⟨ret_bool qc,hp.out _⟩
def hvv (h:Hold):Value:=.agg #[.int .i64 h.1.1,.int .i64 h.1.2,.int .i64 h.2.1,.int .i64 h.2.2]
theorem rmay15_any (h:Hold) (w:World):Calls Tryz.prog 167 #[hvv h] w fun e w'=>e=.returned (.bool (hmay h))∧Pure w w':=by
 obtain ⟨⟨d0,d1⟩,x,y⟩:=h
 obtain ⟨wz,hwz⟩:=qe (w.alloc (.cells #[.int .i64 d0,.int .i64 d1,.int .i64 x,.int .i64 y] 94))
 have Hpz:=qh (Pure w wz) (by rw [hwz];exact qp)
 have Hb:=qh (wz.heap[w.heap.size]?=some (.cells #[.int .i64 d0,.int .i64 d1,.int .i64 x,.int .i64 y] 94 (0,0))) (by rw [hwz];exact ban _ _)
 have HC:=hid (fun W (hW:Pure wz W)=>(show W.cell? ⟨w.heap.size,0,none⟩=some (.int .i64 d0)∧W.cell? ⟨w.heap.size,1,none⟩=some (.int .i64 d1)∧W.cell? ⟨w.heap.size,2,none⟩=some (.int .i64 x)∧W.cell? ⟨w.heap.size,3,none⟩=some (.int .i64 y) from by
  have e:=(hW.block _ (lob Hb.out)).trans Hb.out
  exact ⟨cob e 0,cob e 1,cob e 2,cob e 3⟩))
 have hck:=hid (fun W=>rchk_any (d0,d1) W)
 obtain ⟨k0,k1,k2,k3⟩:=HC.out wz (Below.refl _ _)
 rw [hwz] at k0 k1 k2 k3
 unfold hvv hmay
 unfold dv at hck
 dsimp only at hck ⊢
 generalize dchk (d0,d1)=D at *
 cases D with
 | false =>
   go_enter Tryz.func167,Tryz.ntmps167
   go_wp2_with fail
   rw [←hwz]
   clear hwz k0 k1 k2 k3
   refine (hck.out _).mono ?_
   rintro e w1 ⟨rfl,hp1⟩
   obtain ⟨k0,k1,k2,k3⟩:=HC.out w1 hp1
   have Hp1:=hid (Hpz.out.then_ hp1)
   clear hp1
   go_wp2
   go_ret
   exact ⟨ret_bool qb,Hp1.out⟩
 | true =>
   by_cases h0:1≤x
   ·skip
    by_cases h1:x≤1099511627776
    ·skip
     by_cases h2:1≤y
     ·skip
      by_cases h3:y≤1125899906842624
      ·skip
       go_enter Tryz.func167,Tryz.ntmps167
       go_wp2_with fail
       rw [←hwz]
       clear hwz k0 k1 k2 k3
       refine (hck.out _).mono ?_
       rintro e w1 ⟨rfl,hp1⟩
       obtain ⟨k0,k1,k2,k3⟩:=HC.out w1 hp1
       have Hp1:=hid (Hpz.out.then_ hp1)
       clear hp1
       go_wp2
       go_ret
       exact ⟨ret_bool (by simp [h0,h1,h2,h3]),Hp1.out⟩
      ·skip
       go_enter Tryz.func167,Tryz.ntmps167
       go_wp2_with fail
       rw [←hwz]
       clear hwz k0 k1 k2 k3
       refine (hck.out _).mono ?_
       rintro e w1 ⟨rfl,hp1⟩
       obtain ⟨k0,k1,k2,k3⟩:=HC.out w1 hp1
       have Hp1:=hid (Hpz.out.then_ hp1)
       clear hp1
       go_wp2
       go_ret
       exact ⟨ret_bool qc,Hp1.out⟩
     ·skip
      go_enter Tryz.func167,Tryz.ntmps167
      go_wp2_with fail
      rw [←hwz]
      clear hwz k0 k1 k2 k3
      refine (hck.out _).mono ?_
      rintro e w1 ⟨rfl,hp1⟩
      obtain ⟨k0,k1,k2,k3⟩:=HC.out w1 hp1
      have Hp1:=hid (Hpz.out.then_ hp1)
      clear hp1
      go_wp2
      go_ret
      exact ⟨ret_bool qc,Hp1.out⟩
    ·skip
     go_enter Tryz.func167,Tryz.ntmps167
     go_wp2_with fail
     rw [←hwz]
     clear hwz k0 k1 k2 k3
     refine (hck.out _).mono ?_
     rintro e w1 ⟨rfl,hp1⟩
     obtain ⟨k0,k1,k2,k3⟩:=HC.out w1 hp1
     have Hp1:=hid (Hpz.out.then_ hp1)
     clear hp1
     go_wp2
     go_ret
     exact ⟨ret_bool qc,Hp1.out⟩
   ·skip
    go_enter Tryz.func167,Tryz.ntmps167
    go_wp2_with fail
    rw [←hwz]
    clear hwz k0 k1 k2 k3
    refine (hck.out _).mono ?_
    rintro e w1 ⟨rfl,hp1⟩
    obtain ⟨k0,k1,k2,k3⟩:=HC.out w1 hp1
    have Hp1:=hid (Hpz.out.then_ hp1)
    clear hp1
    go_wp2
    go_ret
    exact ⟨ret_bool qc,Hp1.out⟩
theorem rvchk_any (v:Value) (l:List Pr) (w:World) (hr:Peers w v l) (hl:l.length≤100000) :
 Calls Tryz.prog 119 #[v] w fun e w'=>e=.returned (.int .i64 (er1 (vchk l)))∧Pure w w':=by
 obtain ⟨a,cap,rfl⟩:=hr.shape
 obtain ⟨C,hC⟩:=qe (vchk l)
 rw [←hC]
 by_cases h100:l.length≤64
 ·have HB:=qh (∀k,k<l.length→vat l k=false→C=false) (fun k h e=>by rw [hC];unfold vchk;rw [allB_false h e,Bool.and_false])
  have HE:=qh (allB l.length (vat l)=true→C=true) (fun h=>by rw [hC];unfold vchk;rw [h,decide_eq_true h100];rfl)
  have Hr:=hid hr
  have hmmy:=hid (fun s W=>rmay9_any s W)
  have h100' : ¬(l.length:Int) > 64:=by omega
  clear hr hC
  go_enter Tryz.func119,Tryz.ntmps119
  go_wp2_with fail
  go_loopw [3] (fun i wr=>∃k:Nat,k≤l.length∧i=.int .i64 k∧allB k (vat l)=true∧Pure w wr) (fun i _=>l.length-(RowKit.intOf i).toNat)
  case atStart=>exact ⟨0,Nat.zero_le _,rfl,rfl,Below.refl _ _⟩
  case round =>
   obtain ⟨k,hk,rfl,hal,hp⟩:=hrel
   have Hal:=hid hal
   have Hp:=hid hp
   clear hal
   by_cases hlt:k<l.length
   ·have hlt' : (k:Int)<(l.length:Int):=by omega
    have Hrow:=hid (fun W (hW:Pure wr W)=>(show Peers W (.slice a l.length cap) l from Row.pure Hr.out (hp.then_ hW)))
    obtain ⟨b,off,rfl,hb,x0,x1,x2⟩:=Peers.get (Hrow.out wr (Below.refl _ _)) hlt
    have Hno:=hid (fun (e:vat l k=false)=>HB.out k hlt e)
    have Hyes:=hid (fun (e:vat l k=true)=>allB_next Hal.out e)
    have Hat:=qh (vat l k=(pmay (l.getD k p0) && (decide (k=0) || decide ((l.getD (k-1) p0).id<(l.getD k p0).id)))) (rfl)
    have hprev:=hid (fun W (hW:Pure wr W) (hk0:0<k)=>(show W.cell? ⟨b,off+(k-1)*3,none⟩=some (.int .i64 (l.getD (k-1) p0).id) from by
     obtain ⟨b',off',e',_,y0,y1,_⟩:=Peers.get (Hrow.out W hW) (show k-1<l.length by omega)
     cases e';exact y0))
    have hmy:=hid (fun W=>hmmy.out (l.getD k p0) W)
    generalize l.getD (k-1) p0=y at *
    generalize l.getD k p0=z at *
    obtain ⟨z0,z1,z2⟩:=z
    obtain ⟨y0,y1,y2⟩:=y
    unfold pv at hmy
    dsimp only at x0 x1 x2 Hat hmy hprev
    generalize pmay (⟨z0,z1,z2⟩ : Pr)=D1 at *
    have Hx:=hid (And.intro hb (And.intro x0 x1))
    clear hp hb
    go_wp2_with fail
    refine (hmy.out _).mono ?_
    rintro e w3 ⟨rfl,hp3⟩
    have Hq3:=hid hp3
    have Hp3:=hid (Hp.out.then_ hp3)
    have x0':=(hp3.cell Hx.out.1).trans Hx.out.2.1
    have x1':=(hp3.cell Hx.out.1).trans Hx.out.2.2
    clear hp3 x0 x1 x2
    cases D1 with
    | false =>
      have HF:=hid (Hno.out (by rw [Hat.out];rfl))
      clear Hyes Hno Hat hprev
      go_wp2_with fail
      go_quiet (fail)
      go_wp2
      go_ret
      exact ⟨by rw [HF.out];rfl,Hp3.out.then_ (pdN _ _)⟩
    | true =>
      by_cases hz0:k=0
      ·subst hz0
       have HT:=hid (Hyes.out (by rw [Hat.out];rfl))
       have hd:decide ((0:Int)<((0:Nat):Int))=false:=by decide
       have hd2:decide (((0:Nat):Int) > 0)=false:=by decide
       clear Hyes Hno Hat hprev
       go_wp2_with fail
       go_quiet (fail)
       go_wp2
       go_roundw
       case rel=>exact ⟨0+1,by omega,by go_num,HT.out,Hp3.out.then_ (pdN _ _)⟩
       case measure=>simp [RowKit.intOf];omega
      ·have hd:decide ((0:Int)<(k:Int))=true:=by simp;omega
       have hd2:decide ((k:Int) > 0)=true:=by simp;omega
       have hd3:decide (0<k)=true:=decide_eq_true oe
       have hsub:IntKind.i64.wrap ((k:Int)-1)=((k-1:Nat):Int):=by rw [IntWalk.i64_in _ oe];omega
       have hsub2:(k:Int)-1=((k-1:Nat):Int):=by omega
       have hlt2:((k-1:Nat):Int)<(l.length:Int):=by omega
       have hn:(0:Int)≤((k-1:Nat):Int):=by omega
       have y0':=hprev.out w3 Hq3.out oe
       by_cases he:y0<z0
       ·have HT:=hid (Hyes.out (by rw [Hat.out,decide_eq_true he,Bool.or_true];rfl))
        have hle:decide (z0≤y0)=false:=decide_eq_false oe
        have hge:decide (y0 ≥ z0)=false:=decide_eq_false oe
        clear Hyes Hno Hat hprev
        go_wp2_with fail
        go_quiet (fail)
        go_wp2
        go_roundw
        case rel=>exact ⟨k+1,by omega,by go_num,HT.out,Hp3.out.then_ (pdN _ _)⟩
        case measure=>simp [RowKit.intOf];omega
       ·have HF:=hid (Hno.out (by rw [Hat.out,decide_eq_false he,decide_eq_false hz0];rfl))
        have hle:decide (z0≤y0)=true:=decide_eq_true oe
        have hge:decide (y0 ≥ z0)=true:=decide_eq_true oe
        clear Hyes Hno Hat hprev
        go_wp2_with fail
        go_quiet (fail)
        go_wp2
        go_ret
        exact ⟨by rw [HF.out];rfl,Hp3.out.then_ (pdN _ _)⟩
   ·have hlt' : ¬(k:Int)<(l.length:Int):=by omega
    obtain rfl:k=l.length:=by omega
    have HT:=hid (HE.out Hal.out)
    go_wp2
    go_ret
    exact ⟨by rw [HT.out];rfl,Hp.out⟩
 ·have hC2:C=false:=by rw [hC];unfold vchk;rw [decide_eq_false h100];rfl
  subst hC2
  have h100' : (l.length:Int) > 64:=by omega
  go_enter Tryz.func119,Tryz.ntmps119
  go_wp2
  go_ret
  exact ⟨rfl,Below.refl _ _⟩
theorem rhchk_any (v:Value) (l:List Hold) (w:World) (hr:Holds w v l) (hl:l.length≤100000) :
 Calls Tryz.prog 122 #[v] w fun e w'=>e=.returned (.int .i64 (er1 (hchk l)))∧Pure w w':=by
 obtain ⟨a,cap,rfl⟩:=hr.shape
 obtain ⟨C,hC⟩:=qe (hchk l)
 rw [←hC]
 by_cases h100:l.length≤1000
 ·have HB:=qh (∀k,k<l.length→hat l k=false→C=false) (fun k h e=>by rw [hC];unfold hchk;rw [allB_false h e,Bool.and_false])
  have HE:=qh (allB l.length (hat l)=true→C=true) (fun h=>by rw [hC];unfold hchk;rw [h,decide_eq_true h100];rfl)
  have Hr:=hid hr
  have hmmy:=hid (fun s W=>rmay15_any s W)
  have hles:=hid (fun d e W=>rless_any d e W)
  unfold dv at hles
  have h100' : ¬(l.length:Int) > 1000:=by omega
  clear hr hC
  go_enter Tryz.func122,Tryz.ntmps122
  go_wp2_with fail
  go_loopw [3] (fun i wr=>∃k:Nat,k≤l.length∧i=.int .i64 k∧allB k (hat l)=true∧Pure w wr) (fun i _=>l.length-(RowKit.intOf i).toNat)
  case atStart=>exact ⟨0,Nat.zero_le _,rfl,rfl,Below.refl _ _⟩
  case round =>
   obtain ⟨k,hk,rfl,hal,hp⟩:=hrel
   have Hal:=hid hal
   have Hp:=hid hp
   clear hal
   by_cases hlt:k<l.length
   ·have hlt' : (k:Int)<(l.length:Int):=by omega
    have Hrow:=hid (fun W (hW:Pure wr W)=>(show Holds W (.slice a l.length cap) l from Row.pure Hr.out (hp.then_ hW)))
    obtain ⟨b,off,rfl,hb,x0,x1,x2,x3⟩:=Holds.get (Hrow.out wr (Below.refl _ _)) hlt
    have Hno:=hid (fun (e:hat l k=false)=>HB.out k hlt e)
    have Hyes:=hid (fun (e:hat l k=true)=>allB_next Hal.out e)
    have Hat:=qh (hat l k=(hmay (l.getD k h0) && (decide (k=0) || dlt (l.getD (k-1) h0).1 (l.getD k h0).1))) (rfl)
    have hprev:=hid (fun W (hW:Pure wr W) (hk0:0<k)=>(show W.cell? ⟨b,off+(k-1)*4,none⟩=some (.int .i64 (l.getD (k-1) h0).1.1)∧W.cell? ⟨b,off+(k-1)*4+1,none⟩=some (.int .i64 (l.getD (k-1) h0).1.2) from by
     obtain ⟨b',off',e',_,y0,y1,_⟩:=Holds.get (Hrow.out W hW) (show k-1<l.length by omega)
     cases e';exact ⟨y0,y1⟩))
    have hmy:=hid (fun W=>hmmy.out (l.getD k h0) W)
    have hless:=hid (fun W=>hles.out (l.getD (k-1) h0).1 (l.getD k h0).1 W)
    generalize l.getD (k-1) h0=y at *
    generalize l.getD k h0=z at *
    obtain ⟨⟨z0,z1⟩,z2,z3⟩:=z
    obtain ⟨⟨y0,y1⟩,y2,y3⟩:=y
    unfold hvv at hmy
    dsimp only at x0 x1 x2 x3 Hat hmy hprev hless
    generalize hmay (((z0,z1),z2,z3):Hold)=D1 at *
    generalize dlt (y0,y1) (z0,z1)=D3 at *
    have Hx:=hid (And.intro hb (And.intro x0 x1))
    clear hp hb
    go_wp2_with fail
    refine (hmy.out _).mono ?_
    rintro e w3 ⟨rfl,hp3⟩
    have Hq3:=hid hp3
    have Hp3:=hid (Hp.out.then_ hp3)
    have x0':=(hp3.cell Hx.out.1).trans Hx.out.2.1
    have x1':=(hp3.cell Hx.out.1).trans Hx.out.2.2
    clear hp3 x0 x1 x2 x3
    cases D1 with
    | false =>
      have HF:=hid (Hno.out (by rw [Hat.out];rfl))
      clear Hyes Hno Hat hprev
      go_wp2_with fail
      go_ret
      exact ⟨by rw [HF.out];rfl,Hp3.out⟩
    | true =>
      by_cases hz0:k=0
      ·subst hz0
       have HT:=hid (Hyes.out (by rw [Hat.out];rfl))
       have hd:decide ((0:Int)<((0:Nat):Int))=false:=by decide
       have hd2:decide (((0:Nat):Int) > 0)=false:=by decide
       clear Hyes Hno Hat hprev
       go_wp2_with fail
       go_quiet (fail)
       go_wp2
       go_roundw
       case rel=>exact ⟨0+1,by omega,by go_num,HT.out,Hp3.out.then_ (pdN _ _)⟩
       case measure=>simp [RowKit.intOf];omega
      ·have hd:decide ((0:Int)<(k:Int))=true:=by simp;omega
       have hd2:decide ((k:Int) > 0)=true:=by simp;omega
       have hd3:decide (0<k)=true:=decide_eq_true oe
       have hsub:IntKind.i64.wrap ((k:Int)-1)=((k-1:Nat):Int):=by rw [IntWalk.i64_in _ oe];omega
       have hsub2:(k:Int)-1=((k-1:Nat):Int):=by omega
       have hlt2:((k-1:Nat):Int)<(l.length:Int):=by omega
       have hn:(0:Int)≤((k-1:Nat):Int):=by omega
       have HT':=hid (fun (e:D3=true)=>Hyes.out (by rw [Hat.out,e,Bool.or_true];rfl))
       have HF':=hid (fun (e:D3=false)=>Hno.out (by rw [Hat.out,e,decide_eq_false hz0];rfl))
       have Hxx:=qh (b<w3.heap.size) (Nat.lt_of_lt_of_le Hx.out.1 Hq3.out.size)
       have Hc0:=hid x0'
       have Hc1:=hid x1'
       have hS:Hid (∀W,Pure w3 W→(W.cell? ⟨b,off+(k-1)*4,none⟩=some (.int .i64 y0)∧W.cell? ⟨b,off+(k-1)*4+1,none⟩=some (.int .i64 y1)∧W.cell? ⟨b,off+k*4,none⟩=some (.int .i64 z0)∧W.cell? ⟨b,off+k*4+1,none⟩=some (.int .i64 z1)∧Pure w3 W)):=fun W hW=>by
        obtain ⟨y0',y1'⟩:=hprev.out W (Hq3.out.then_ hW) oe
        exact ⟨y0',y1',(hW.cell Hxx.out).trans Hc0.out,(hW.cell Hxx.out).trans Hc1.out,hW⟩
       have hst:=hid (hS.out w3.drew qv)
       have hS2:Hid (∀W:World,(W.cell? ⟨b,off+(k-1)*4,none⟩=some (.int .i64 y0)∧W.cell? ⟨b,off+(k-1)*4+1,none⟩=some (.int .i64 y1)∧W.cell? ⟨b,off+k*4,none⟩=some (.int .i64 z0)∧W.cell? ⟨b,off+k*4+1,none⟩=some (.int .i64 z1)∧Pure w3 W)→Pure w3 W):=fun W h=>h.2.2.2.2
       clear Hyes Hno Hat hprev x0' x1'
       generalize hj:k-1=j at *
       have hwm:IntKind.i64.wrap (j:Int)=(j:Int):=IntWalk.i64_in _ oe
       cases D3
       case' false=>have HQ:=hid (HF'.out rfl)
       case' true=>have HQ:=hid (HT'.out rfl)
       all_goals
        clear HT' HF'
        go_wp2_with fail
        refine wp_region_held_drew (S:=(fun W=>W.cell? ⟨b,off+j*4,none⟩=some (.int .i64 y0)∧W.cell? ⟨b,off+j*4+1,none⟩=some (.int .i64 y1)∧W.cell? ⟨b,off+k*4,none⟩=some (.int .i64 z0)∧W.cell? ⟨b,off+k*4+1,none⟩=some (.int .i64 z1)∧Pure w3 W)) qk ?_ (fun hHeld=>?_)
        ·first|assumption|with_reducible exact hst.out|with_reducible exact hS.out _ (Pure.then_ (hS2.out _ qa) hp7)
        refine tkA 0 ?_
        refine tkA 1 ?_
        refine tkA 2 ?_
        refine tkA 3 ?_
        refine tkA 4 ?_
        refine tkA 5 ?_
        refine tkA 6 ?_
        refine tkA 7 ?_
        refine tkA 8 ?_
        refine tkA 9 ?_
        refine tkA 10 ?_
        refine tkA 11 ?_
        refine tkA 12 ?_
        refine tkA 13 ?_
        refine tkC 14 fun K hK=>?_
        go_simp
        go_at_call 163;(with_reducible refine (hless.out _).mono ?_);rintro e w7 ⟨rfl,hp7⟩
        refine hK.out _ _ (by first|assumption|with_reducible exact hst.out|with_reducible exact hS.out _ (Pure.then_ (hS2.out _ qa) hp7)) fun hHeld=>?_
        clear hK K
        refine tkA 15 ?_
        refine tkA 16 ?_
        refine wpAnyH_done qk ?_ _
        have hx:=hid (hS2.out _ qa)
       ·go_wp2
        go_roundw
        case rel=>exact ⟨k+1,by omega,by go_num,HQ.out,Hp3.out.then_ hx.out⟩
        case measure=>simp [RowKit.intOf];omega
       ·go_wp2
        go_ret
        exact ⟨by rw [HQ.out];rfl,Hp3.out.then_ hx.out⟩
   ·have hlt' : ¬(k:Int)<(l.length:Int):=by omega
    obtain rfl:k=l.length:=by omega
    have HT:=hid (HE.out Hal.out)
    go_wp2
    go_ret
    exact ⟨by rw [HT.out];rfl,Hp.out⟩
 ·have hC2:C=false:=by rw [hC];unfold hchk;rw [decide_eq_false h100];rfl
  subst hC2
  have h100' : (l.length:Int) > 1000:=by omega
  go_enter Tryz.func122,Tryz.ntmps122
  go_wp2
  go_ret
  exact ⟨rfl,Below.refl _ _⟩
end
section
set_option maxHeartbeats 8000000
set_option maxRecDepth 8000
open Go.RowKit Go.Maps Go.Shelf Go.Sort
def jnew (m:List (Int × Pr)) (p:Pr):Pr:=match mlook m p.id with
 | some q=>later q p
 | none=>p
structure MA (m:List (Int × Pr)) (acc:List Pr):Prop where
 rise:VS acc
 look:∀k,mlook m k=vget acc k
 ids:∀x ∈ m,x.2.id=x.1
theorem MA.nil:MA [] []:=⟨KS.nil,fun _=>rfl,by simp⟩
theorem mlook_mem {m:List (Int × Pr)} {k:Int} {p:Pr} (h:mlook m k=some p):(k,p) ∈ m:=by
 unfold mlook at h
 cases hf:m.find? (fun p=>p.1 == k) with
 | none=>rw [hf] at h;simp at h
 | some x =>
   rw [hf] at h
   have h1:=List.mem_of_find?_eq_some hf
   have h2:=List.find?_some hf
   simp at h h2
   obtain ⟨a,b⟩:=x
   dsimp only at h h2
   subst h h2
   exact h1
theorem mlook_of_mem:∀{m:List (Int × Pr)} {x:Int × Pr},(m.map (·.1)).Nodup→x ∈ m→mlook m x.1=some x.2
 | [],x,_,h=>by simp at h
 | y::m,x,hn,h=>by
   obtain ⟨h1,h2⟩:=List.nodup_cons.1 (List.map_cons (f:=fun x:Int × Pr=>x.1) ▸ hn)
   unfold mlook
   rcases List.mem_cons.1 h with rfl|h
   ·simp
   ·have hne:¬(y.1 == x.1)=true:=fun e=>h1 (by rw [show y.1=x.1 by simpa using e];exact List.mem_map.2 ⟨x,h,rfl⟩)
    rw [List.find?_cons_of_neg (by simpa using hne)]
    exact mlook_of_mem h2 h
theorem jnew_id {m:List (Int × Pr)} {acc:List Pr} (h:MA m acc) (p:Pr):(jnew m p).id=p.id:=by
 unfold jnew
 split
 ·rename_i q hq
  have:=h.ids _ (mlook_mem hq)
  dsimp only at this
  rw [later_id this,this]
 ·rfl
theorem mput_memP {m:List (Int × Pr)} {k:Int} {v:Pr} {e:Int × Pr} (h:e ∈ mput m k v):e ∈ m∨e=(k,v):=by
 induction m with
 | nil=>simp [mput] at h;exact .inr h
 | cons a m ih =>
   unfold mput at h
   split at h
   ·rcases List.mem_cons.1 h with h|h
    ·exact .inr h
    ·exact .inl (List.mem_cons_of_mem _ h)
   ·rcases List.mem_cons.1 h with h|h
    ·exact .inl (by simp [h])
    ·rcases ih h with h|h
     ·exact .inl (List.mem_cons_of_mem _ h)
     ·exact .inr h
theorem mput_lenP (m:List (Int × Pr)) (k:Int) (v:Pr):(mput m k v).length≤m.length+1:=by
 induction m with
 | nil=>simp [mput]
 | cons a m ih =>
   unfold mput
   split
   ·simp
   ·simp only [List.length_cons];omega
theorem mlook_mputP (m:List (Int × Pr)) (k j:Int) (v:Pr):mlook (mput m k v) j=if j=k then some v else mlook m j:=by
 induction m with
 | nil =>
   unfold mput mlook
   by_cases h:j=k
   ·subst h;simp
   ·have h' : ¬k=j:=fun e=>h e.symm
    simp [h,h']
 | cons a m ih =>
   unfold mput
   by_cases hk:a.1=k
   ·rw [if_pos (by simpa using hk)]
    unfold mlook
    by_cases h:j=k
    ·subst h;simp
    ·rw [if_neg h,List.find?_cons_of_neg (by simpa using fun e=>h (Eq.symm e)),List.find?_cons_of_neg (by rw [hk];simpa using fun e=>h (Eq.symm e))]
   ·rw [if_neg (by simpa using hk)]
    unfold mlook at *
    by_cases h:a.1=j
    ·rw [List.find?_cons_of_pos (by simpa using h),List.find?_cons_of_pos (by simpa using h),if_neg (fun e=>hk (by rw [h,e]))]
    ·rw [List.find?_cons_of_neg (by simpa using h),List.find?_cons_of_neg (by simpa using h),ih]
theorem MA.put {m:List (Int × Pr)} {acc:List Pr} (h:MA m acc) (p:Pr):MA (mput m p.id (jnew m p)) (pins p acc):=by
 refine ⟨pins_rise p h.rise,fun k=>?_,fun x hx=>?_⟩
 ·rw [mlook_mputP,pins_get p acc k h.rise]
  by_cases hk:k=p.id
  ·rw [if_pos hk,if_pos hk.symm]
   unfold jnew
   rw [h.look,hk]
   cases vget acc p.id <;> rfl
  ·rw [if_neg hk,if_neg (fun e=>hk e.symm)];exact h.look k
 ·rcases mput_memP hx with hx|rfl
  ·exact h.ids x hx
  ·exact jnew_id h p
theorem MA.sorted {m:List (Int × Pr)} {acc ss:List Pr} (h:MA m acc) (hn:(m.map (·.1)).Nodup) (hp:ss.Perm (m.map (·.2))) (hs:ss.Pairwise (fun a b=>¬b.id<a.id)):ss=acc:=by
 have e:(m.map (·.2)).map (fun p=>p.id)=m.map (·.1):=by rw [List.map_map];exact List.map_congr_left (fun x hx=>h.ids x hx)
 have hnd:(ss.map (fun p=>p.id)).Nodup:=by
  have:=(hp.map (fun p=>p.id)).nodup_iff.2 (by rw [e];exact hn)
  exact this
 have hr:VS ss:=by
  refine (hs.and (List.pairwise_map.1 hnd)).imp ?_
  rintro a b ⟨h1,h2⟩
  show a.id<b.id
  omega
 refine KS.eq_of_mem il_irr il_tr hr h.rise (fun x=>?_)
 rw [hp.mem_iff,KS.mem_get il_irr h.rise,show kget (fun p:Pr=>p.id) acc x.id=mlook m x.id from (h.look x.id).symm]
 constructor
 ·intro hx
  obtain ⟨y,hy,rfl⟩:=List.mem_map.1 hx
  rw [h.ids y hy]
  exact mlook_of_mem hn hy
 ·intro hx
  exact List.mem_map.2 ⟨_,mlook_mem hx,rfl⟩
def vacc (l:List Pr):List Pr:=l.foldl (fun o p=>pins p o) []
theorem vacc_join {l k:List Pr} (h1:VS l):vacc (l++k)=vfold l k:=by
 unfold vacc
 rw [List.foldl_append]
 have e:vfold [] l=l:=by
  obtain ⟨g1,g2⟩:=vfold_spec l [] KS.nil h1
  refine KS.ext il_irr il_tr g1 h1 (fun x=>(g2 x).trans ?_)
  show vof none (vget l x)=vget l x
  generalize vget l x=o
  cases o <;> rfl
 show vfold (vfold [] l) k=vfold l k
 rw [e]
theorem vacc_take {l:List Pr} {k:Nat} (h:k<l.length):vacc (l.take (k+1))=pins (l.getD k p0) (vacc (l.take k)):=by
 unfold vacc
 rw [take_succ_p l k h,List.foldl_append];rfl
theorem zeroPeer (w:World):(zeroValue 92).run Tryz.prog w=.ok (.agg #[.int .i64 0,.int .i64 0,.int .i64 0]) w:=by kernel_rfl
def VPutO (bm:Nat) (m:List (Int × Pr)) (p:Pr) (w:World) (e:Ending) (w' : World):Prop:=e=.returned (.tuple #[])∧IMap pv w' bm (mput m p.id (jnew m p))∧Kept (fun k=>k=bm) w w'
theorem vjput_any (p:Pr) (nb bm:Nat) (m:List (Int × Pr)) (acc:List Pr) (w:World) (hb:w.heap[nb]?=some (.cells #[.map (some bm)] 160 (0,0))) (hm:IMap pv w bm m) (hA:MA m acc) (hw:(Lit.int .i64 p.id).wf=true) :
 Calls Tryz.prog 150 (#[pv p] ++ #[.pointer (some ⟨nb,0,none⟩)]) w (VPutO bm m p w):=by
 have hid_:=jnew_id hA p
 have hlt:=lob hb
 have hp1:∀o,Pure w (w.alloc o):=fun o=>(Below.refl _ _).alloc (Nat.le_refl _) o
 have hlk:=(hm.pure (hp1 (.cells #[.int .i64 p.id,.int .i64 p.inc,.int .i64 p.st] 92))).look (P:=Tryz.prog) Tryz.underlying3 Tryz.underlying160 (zeroPeer _) p.id hw true
 have hbox:=hid (fun W (hW:Pure w W)=>(show W.cell? ⟨nb,0,none⟩=some (.map (some bm)) from cob ((hW.block _ hlt).trans hb) 0))
 have Hm:=hid hm
 have HP1:=hid hp1
 have b0:=hbox.out _ (hp1 (.cells #[.int .i64 p.id,.int .i64 p.inc,.int .i64 p.st] 92))
 have b1:=hbox.out _ (Below.refl _ w)
 unfold VPutO
 obtain ⟨x,y,z⟩:=p
 dsimp only at *
 show Calls Tryz.prog 150 #[.agg #[.int .i64 x,.int .i64 y,.int .i64 z],.pointer (some ⟨nb,0,none⟩)] w _
 have Hj:=qh (jnew m ⟨x,y,z⟩=(match mlook m x with|some q=>later q ⟨x,y,z⟩|none=>⟨x,y,z⟩)) (rfl)
 cases hq:mlook m x with
 | none =>
   rw [hq] at hlk Hj
   simp only [Option.map_none,Option.getD_none,Option.isSome_none,if_true] at hlk
   dsimp only at Hj
   rw [Hj.out]
   have b2:=hbox.out _ ((hp1 (.cells #[.int .i64 x,.int .i64 y,.int .i64 z] 92)).then_ ((Below.refl _ _).alloc (Nat.le_refl _) (.cells #[.int .i64 0,.int .i64 0,.int .i64 0] 92)))
   have Hm2:=hid (Hm.out.pure (Pure.then_ (hp1 (.cells #[.int .i64 x,.int .i64 y,.int .i64 z] 92)) ((Below.refl _ _).alloc (Nat.le_refl _) (.cells #[.int .i64 0,.int .i64 0,.int .i64 0] 92))))
   have Hp2:=hid (Pure.then_ (hp1 (.cells #[.int .i64 x,.int .i64 y,.int .i64 z] 92)) ((Below.refl _ _).alloc (Nat.le_refl _) (.cells #[.int .i64 0,.int .i64 0,.int .i64 0] 92)))
   clear hm hb hA hp1 hid_ hlt Hj
   go_enter Tryz.func150,Tryz.ntmps150
   go_wp2_with (at_mapUpdate;refine wpList_put pv _ rfl _ _ _ 160 rfl 3 92 Tryz.underlying3 Tryz.underlying160 bm m rfl Hm2.out x hw ⟨x,y,z⟩ rfl rfl ?_;intro w3 hmap3 hg3 hs3;have Hmap3:=hid hmap3;have Hg3:=hid hg3;clear hmap3 hg3 hs3)
   go_end0
   exact ⟨rfl,Hmap3.out,(Pure.kept Hp2.out).grown Hg3.out (fun j hj _=>by cases hj;rfl)⟩
 | some q =>
   rw [hq] at hlk Hj
   simp only [Option.map_some,Option.getD_some,Option.isSome_some,if_true] at hlk
   dsimp only at Hj
   rw [Hj.out] at hid_ ⊢
   obtain ⟨q1,q2,q3⟩:=q
   have b2:=hbox.out _ ((hp1 (.cells #[.int .i64 x,.int .i64 y,.int .i64 z] 92)).then_ ((Below.refl _ _).alloc (Nat.le_refl _) (.cells #[.int .i64 q1,.int .i64 q2,.int .i64 q3] 92)))
   have Hp2:=hid (Pure.then_ (hp1 (.cells #[.int .i64 x,.int .i64 y,.int .i64 z] 92)) ((Below.refl _ _).alloc (Nat.le_refl _) (.cells #[.int .i64 q1,.int .i64 q2,.int .i64 q3] 92)))
   have Hla:=hid (fun W=>vlater_any ⟨q1,q2,q3⟩ ⟨x,y,z⟩ W)
   generalize later ⟨q1,q2,q3⟩ ⟨x,y,z⟩=r at *
   obtain ⟨r1,r2,r3⟩:=r
   dsimp only at hid_
   subst hid_
   unfold pv at hlk Hla
   dsimp only at hlk Hla
   have n1:=ban w (.cells #[.int .i64 r1,.int .i64 y,.int .i64 z] 92)
   have n2:=bao n1 (.cells #[.int .i64 q1,.int .i64 q2,.int .i64 q3] 92)
   have N2:=hid n2
   clear hm hb hA hp1 hlt Hj n1 n2
   go_enter Tryz.func150,Tryz.ntmps150
   go_wp2_with fail
   refine (Hla.out _).mono ?_
   rintro e w1 ⟨rfl,hp⟩
   have M1:=(hp.block _ (lob N2.out)).trans N2.out
   have e0:w1.cell? ⟨w.heap.size,0,none⟩=some (.int .i64 r1):=cob M1 0
   have e1:w1.cell? ⟨w.heap.size,1,none⟩=some (.int .i64 y):=cob M1 1
   have e2:w1.cell? ⟨w.heap.size,2,none⟩=some (.int .i64 z):=cob M1 2
   have g0:w1.frozen? ⟨w.heap.size,0,none⟩=false:=by simp [World.frozen?,M1]
   have g1:w1.frozen? ⟨w.heap.size,1,none⟩=false:=by simp [World.frozen?,M1]
   have g2:w1.frozen? ⟨w.heap.size,2,none⟩=false:=by simp [World.frozen?,M1]
   have hp4:Pure w (((w1.setCell ⟨w.heap.size,0,none⟩ (.int .i64 r1)).setCell ⟨w.heap.size,1,none⟩ (.int .i64 r2)).setCell ⟨w.heap.size,2,none⟩ (.int .i64 r3)):=Below.setCell (Below.setCell (Below.setCell (show Pure w w1 from Pure.then_ Hp2.out hp) (Nat.le_refl _) _) (Nat.le_refl _) _) (Nat.le_refl _) _
   have b4:=hbox.out _ hp4
   have Hm4:=hid (Hm.out.pure hp4)
   have Hp4:=hid hp4
   obtain ⟨k0,k1,k2⟩:=BA4.put M1 r1 r2 r3
   clear hp hp4 M1 b0 b1 b2
   go_wp2_with (at_mapUpdate;refine wpList_put pv _ rfl _ _ _ 160 rfl 3 92 Tryz.underlying3 Tryz.underlying160 bm m rfl Hm4.out r1 hw ⟨r1,r2,r3⟩ rfl rfl ?_;intro w5 hmap3 hg3 hs3;have Hmap3:=hid hmap3;have Hg3:=hid hg3;clear hmap3 hg3 hs3)
   go_end0
   exact ⟨rfl,Hmap3.out,(Pure.kept Hp4.out).grown Hg3.out (fun j hj _=>by cases hj;rfl)⟩
theorem penc:Enc pcells 3:=⟨fun _=>rfl,pcells_one⟩
theorem pvs_take (l:List Pr) (k:Nat):(pvs l).take (k*3)=pvs (l.take k):=gvs_take penc l k
theorem sizePeer (W:World):(sizeOf 92).run Tryz.prog W=.ok 3 W:=by kernel_rfl
theorem pwf {p:Pr} (h:pmay p=true):(Lit.int .i64 p.id).wf=true:=wf_i64 _ (by have:=pmay_bd h;omega)
def PeerO (w:World) (l:List Pr) (e:Ending) (w' : World):Prop:=∃v,e=.returned v∧Peers w' v l∧(∀k,v.rb=some k→w.heap.size≤k)∧Pure w w'
theorem vjoin_any (v0 v1:Value) (l0 k0:List Pr) (w:World) (h0:Peers w v0 l0) (h1:Peers w v1 k0) (r0:VS l0) (m0:∀p ∈ l0++k0,pmay p=true) (n0:l0.length≤1000) (n1:k0.length≤1000) :
 Calls Tryz.prog 97 #[v0,v1] w (PeerO w (vjoin l0 k0)):=by
 obtain ⟨W1,hW1⟩:=qe (((w.alloc (.map #[] 0)).alloc (.cells #[.map (some w.heap.size)] 160)).alloc (.cells #[v0,v1] 50))
 have Hp1:=qh (Pure w W1) (by rw [hW1];exact (qp.alloc qb _).alloc qc _)
 have hs1:W1.heap.size=w.heap.size+3:=by rw [hW1];simp
 have hm1:IMap pv W1 w.heap.size []:=by
  have:=IMap.made pv w
  rw [hW1]
  exact (this.pure qp).pure qp
 have hb1:W1.heap[w.heap.size+1]?=some (.cells #[.map (some w.heap.size)] 160 (0,0)):=by
  rw [hW1]
  have:=ban (w.alloc (.map #[] 0)) (.cells #[.map (some w.heap.size)] 160)
  rw [World.size_alloc] at this
  exact bao this _
 have hb2:W1.heap[w.heap.size+2]?=some (.cells #[v0,v1] 50 (0,0)):=by
  rw [hW1]
  have:=ban ((w.alloc (.map #[] 0)).alloc (.cells #[.map (some w.heap.size)] 160)) (.cells #[v0,v1] 50)
  simpa using this
 have c0:W1.cell? ⟨w.heap.size+2,0,none⟩=some v0:=cob hb2 0
 have c1:W1.cell? ⟨w.heap.size+2,1,none⟩=some v1:=cob hb2 1
 have Hcc:=hid (fun cp=>concatp_any (w.heap.size+2) cp v0 v1 l0 k0 W1 c0 c1 (Row.pure h0 Hp1.out) (Row.pure h1 Hp1.out) oe oe oe)
 obtain ⟨a0,q0,rfl⟩:=Peers.shape h0
 obtain ⟨a1,q1,rfl⟩:=Peers.shape h1
 have Hm1:=hid hm1
 have Hb1:=hid hb1
 have Hs1:=hid hs1
 clear h0 h1 hm1 hb1 hb2 c0 c1 hs1
 have hmm:=@run_makeMap Tryz.prog
 have Hv:=qh ((vacc (l0++k0)).take 64=vjoin l0 k0) (by rw [vacc_join r0];rfl)
 have Hmay:=hid (fun k (hk:k<(l0++k0).length)=>m0 _ (mem_get_p hk))
 have hcat:(l0++k0).length≤2000:=by simp;omega
 clear r0 m0 n0 n1
 generalize vjoin l0 k0=R at *
 generalize hL:l0++k0=L at *
 clear hL
 go_enter Tryz.func97,Tryz.ntmps97
 go_wp2_with fail
 rw [←hW1]
 clear hW1 hmm
 refine (Hcc.out _).mono ?_
 rintro e w2 ⟨v2,rfl,hown,hp2⟩
 have Hp2:=qh (Pure w w2) (Pure.then_ Hp1.out hp2)
 have Hrow:=qh (Peers w2 v2 L) (Row.of_own hown)
 have Hblk:=hid (fun k (hk:v2.rb=some k)=>(hown.lt k (rb_own hk)).1)
 have Hm2:=qh (IMap pv w2 w.heap.size []) (Hm1.out.pure hp2)
 have Hb2:=qh (w2.heap[w.heap.size+1]?=some (.cells #[.map (some w.heap.size)] 160 (0,0))) ((hp2.block _ (lob Hb1.out)).trans Hb1.out)
 have Hnb:=qh (w.heap.size+1≠w.heap.size) (by omega)
 obtain ⟨a2,q2,rfl⟩:=own_shape_p hown
 clear hown hp2 Hcc
 go_wp2
 go_loopw [8,17] (fun _ i wr=>∃(k:Nat) (m:List (Int × Pr)),k≤L.length∧i=.int .i64 k∧IMap pv wr w.heap.size m∧MA m (vacc (L.take k))∧m.length≤k∧Kept (fun j=>j=w.heap.size) w2 wr) (fun _ i _=>L.length-(RowKit.intOf i).toNat)
 case atStart=>exact ⟨0,[],Nat.zero_le _,rfl,Hm2.out,MA.nil,Nat.le_refl _,Kept.refl _ _⟩
 case round =>
  obtain ⟨k,m,hk,rfl,hmap,hma,hml,hkp⟩:=hrel
  have Hkp:=hid hkp
  have Hmap:=hid hmap
  have Hma:=hid hma
  have Hml:=hid hml
  have hbx:wr.heap[w.heap.size+1]?=some (.cells #[.map (some w.heap.size)] 160 (0,0)):=(hkp.block _ (lob Hb2.out) Hnb.out).trans Hb2.out
  by_cases hlt:k<L.length
  ·obtain ⟨b,off,rfl,hb0,x0,x1,x2⟩:=Peers.get (show Peers wr (.slice a2 L.length q2) L from Row.kept Hrow.out hkp (fun j hj e=>by have:=Hblk.out j hj;have:=Hs1.out;omega)) hlt
   have hlt' : (k:Int)<(L.length:Int):=by omega
   have Hvt:=hid (vacc_take hlt)
   have Hpm:=hid (Hmay.out k hlt)
   generalize L.getD k p0=z at *
   have Hput:=hid (fun W (hW:Pure wr W)=>vjput_any z (w.heap.size+1) w.heap.size m (vacc (L.take k)) W ((hW.block _ (lob hbx)).trans hbx) (hmap.pure hW) hma (pwf Hpm.out))
   have Hst:=hid (hma.put z)
   have Hmll:=hid (mput_lenP m z.id (jnew m z))
   unfold VPutO at Hput
   generalize mput m z.id (jnew m z)=m' at *
   obtain ⟨z1,z2,z3⟩:=z
   dsimp only at x0 x1 x2
   have Hpa:=qh (Pure wr (wr.alloc (.cells #[.int .i64 z1,.int .i64 z2,.int .i64 z3] 92))) (qp)
   clear hmap hkp hb0 hma hml hbx
   go_wp2_with fail
   refine (Hput.out _ Hpa.out).mono ?_
   rintro e w3 ⟨rfl,hm3,hk3⟩
   have Hm3:=hid hm3
   have Hk3:=hid hk3
   clear hm3 hk3
   go_wp2
   go_roundw
   case rel=>exact ⟨k+1,m',by omega,by go_num,Hm3.out,by rw [Hvt.out];exact Hst.out,by have:=Hmll.out;have:=Hml.out;omega,Hkp.out.trans ((Pure.kept Hpa.out).trans Hk3.out)⟩
   case measure=>simp [RowKit.intOf];omega
  ·obtain rfl:k=L.length:=by omega
   have hlt' : ¬(L.length:Int)<(L.length:Int):=by omega
   rw [List.take_of_length_le (Nat.le_refl _)] at Hma
   have Hk:=hid (values_call (some w.heap.size) wr)
   have Hs:=hid (sortedfunc_call w.heap.size m wr hmap oe)
   have Hnd:=qh ((m.map (·.1)).Nodup) (by
    obtain ⟨_,_,_,_,h,_⟩:=hmap.ownsP (P:=Tryz.prog) Tryz.underlying3 (by unfold maxLen;omega)
    exact h)
   have hbc:wr.cell? ⟨w.heap.size+1,0,none⟩=some (.map (some w.heap.size)):=cob hbx 0
   have Hpw:=qh (Pure w wr) ((Kept.trans (Pure.kept (S:=fun k=>k=w.heap.size) Hp2.out) hkp).below (Nat.le_refl _) (fun k hk e=>by omega))
   clear hmap hkp hma hml hbx
   go_wp2_with fail
   refine Hk.out.mono ?_
   rintro e w3 ⟨rfl,rfl⟩
   go_wp2_with fail
   refine Hs.out.mono ?_
   rintro e w4 ⟨v4,ss,rfl,hp4,hpw4,hown4,hpu4⟩
   obtain rfl:=Hma.out.sorted Hnd.out hp4 (hpw4.imp (fun {a b} h=>by omega))
   have Hpu4:=hid hpu4
   have Hown4:=hid hown4
   have hlen:(vacc L).length≤2000:=by
    have:=hp4.length_eq
    simp only [List.length_map] at this
    have:=Hml.out
    omega
   obtain ⟨a4,q4,rfl⟩:=own_shape_p hown4
   clear hp4 hpw4 hpu4
   generalize vacc L=Y at *
   have hmin:min (Y.length:Int) 64=((min Y.length 64:Nat):Int):=by omega
   obtain ⟨hV,hVr⟩:=slice_pre_eq (P:=Tryz.prog) Tryz.underlying50 (Row.of_own hown4) (k:=min Y.length 64) oe (by rcases own_plain_d hown4 with ⟨p,c,e,h⟩;injection e with e1 e2 e3;subst e1;exact h) sizePeer
   rw [←hmin] at hV
   have HVr:=qh (Peers w4 (.slice a4 (min Y.length 64) q4) R) (by
    have:=hVr w4 (Row.of_own hown4)
    rw [pvs_take] at this
    have e:Y.take (min Y.length 64)=Y.take 64:=by
     rcases Nat.le_total Y.length 64 with h|h
     ·rw [Nat.min_eq_left h,List.take_of_length_le (Nat.le_refl _),List.take_of_length_le h]
     ·rw [Nat.min_eq_right h]
    rw [e,Hv.out] at this
    have e2:R.length=min Y.length 64:=by rw [←Hv.out,List.length_take,Nat.min_comm]
    unfold Peers
    rw [e2]
    exact this)
   have Hf:=qh (∀j,(Value.slice a4 (min Y.length 64) q4).rb=some j→w.heap.size≤j) (fun j hj=>Nat.le_trans Hpw.out.size (Hown4.out.lt j (by
    unfold Value.rb at hj
    unfold Value.ownBlock
    cases a4 with
    | none=>cases hj
    | some ad=>dsimp only at hj ⊢;split at hj <;> simp_all)).1)
   have hle:min Y.length 64≤q4:=by
    obtain ⟨_,a',c',e,h1,_⟩:=Row.of_own hown4
    cases e;omega
   have hyy:(0:Int)≤(Y.length:Int):=by omega
   clear hown4 hVr
   go_wp2
   go_ret
   exact ⟨.slice a4 (min Y.length 64) q4,rfl,HVr.out,Hf.out,Hpw.out.then_ Hpu4.out⟩
end
end Go.Proofs.YtdlpnhfgjficgaaGreat
