import Derived.Test.YtdlpnhfgjficgaaGreatMSd
set_option maxHeartbeats 8000000
set_option maxRecDepth 8000
namespace Go.Proofs.YtdlpnhfgjficgaaGreat
open Go.RowKit Go.Maps Go.Shelf Go.Sort
theorem rcchk_any (v0 v1:Value) (B C:List Dot) (w:World) (h0:Dots w v0 B) (h1:Dots w v1 C) (hlB:B.length≤100000) (hlC:C.length≤100000) :
 Calls Tryz.prog 162 #[.agg #[v0,v1]] w fun e w'=>e=.returned (.int .i64 (er1 (cchk B C)))∧Pure w w':=by
 obtain ⟨a0,c0,rfl⟩:=h0.shape
 obtain ⟨a1,c1,rfl⟩:=h1.shape
 obtain ⟨V,hV⟩:=qe (cchk B C)
 rw [←hV]
 have hVe:=qh (V=(riseb B && riseb C && allB B.length (cat0 B) && allB C.length (cat1 B C))) (hV)
 clear hV
 obtain ⟨wz,hwz⟩:=qe (w.alloc (.cells #[.slice a0 B.length c0,.slice a1 C.length c1] 32))
 have Hpz:=qh (Pure w wz) (by rw [hwz];exact qp)
 have HX:=qh (CB w.heap.size (.slice a0 B.length c0) (.slice a1 C.length c1) (B,C) wz) (by rw [hwz];exact CB.made h0 h1)
 have HC:=hid (fun W (hW:Pure wz W)=>(HX.out.pure hW).cells)
 have HB0:=hid (fun W (hW:Pure wz W)=>(show Dots W (.slice a0 B.length c0) B from Row.pure h0 (Hpz.out.then_ hW)))
 have HC0:=hid (fun W (hW:Pure wz W)=>(show Dots W (.slice a1 C.length c1) C from Row.pure h1 (Hpz.out.then_ hW)))
 have hr0:=hid (fun W (hW:Pure wz W)=>rrises_any _ B W (HB0.out W hW) hlB)
 have hr1:=hid (fun W (hW:Pure wz W)=>rrises_any _ C W (HC0.out W hW) hlC)
 have hck:=hid (fun d W=>rchk_any d W)
 have hbs:=hid (fun x W (hW:Pure wz W)=>rbase_any (.slice a0 B.length c0) (.slice a1 C.length c1) B x W (HB0.out W hW))
 unfold dv at hck
 generalize riseb B=V1 at *
 generalize riseb C=V2 at *
 have k0:wz.cell? ⟨w.heap.size,0,none⟩=some (.slice a0 B.length c0):=(HC.out wz (Below.refl _ _)).1
 rw [hwz] at k0
 clear h0 h1
 go_enter Tryz.func162,Tryz.ntmps162
 go_wp2_with fail
 rw [←hwz]
 clear hwz k0
 refine (hr0.out _ (Below.refl _ _)).mono ?_
 rintro e w1 ⟨rfl,hp1⟩
 obtain ⟨k0,k1⟩:=HC.out w1 hp1
 have Hp1:=hid hp1
 clear hp1
 go_wp2_with fail
 refine (hr1.out w1 Hp1.out).mono ?_
 rintro e w2 ⟨rfl,hp2⟩
 have Hp2:=hid (Hp1.out.then_ hp2)
 clear hp2 k0 k1
 have hbad:=hid (fun (h:(V1 && V2)=false)=>(show V=false from by rw [hVe.out,h];rfl))
 cases V1 with
 | false =>
   have HF:=hid (hbad.out rfl)
   go_wp2
   go_ret
   exact ⟨by rw [HF.out];rfl,Hpz.out.then_ Hp2.out⟩
 | true =>
   cases V2 with
   | false =>
     have HF:=hid (hbad.out rfl)
     go_wp2
     go_ret
     exact ⟨by rw [HF.out];rfl,Hpz.out.then_ Hp2.out⟩
   | true =>
     have HVe:=qh (V=(allB B.length (cat0 B) && allB C.length (cat1 B C))) (hVe.out)
     have HF0:=hid (fun k (hk:k<B.length) (h:cat0 B k=false)=>(show V=false from by rw [HVe.out,allB_false hk h];rfl))
     have HF1:=hid (fun k (hk:k<C.length) (h:cat1 B C k=false)=>(show V=false from by rw [HVe.out,allB_false hk h,Bool.and_false]))
     have HT:=hid (fun (h1:allB B.length (cat0 B)=true) (h2:allB C.length (cat1 B C)=true)=>(show V=true from by rw [HVe.out,h1,h2];rfl))
     clear hbad hVe HVe
     go_wp2
     go_loopw [5] (fun i wr=>∃k:Nat,k≤B.length∧i=.int .i64 k∧allB k (cat0 B)=true∧Pure wz wr) (fun i _=>B.length-(RowKit.intOf i).toNat)
     case atStart=>exact ⟨0,Nat.zero_le _,rfl,rfl,Hp2.out⟩
     case round =>
      obtain ⟨k,hk,rfl,hal,hp⟩:=hrel
      have Hal:=hid hal
      have Hp:=hid hp
      clear hal
      obtain ⟨k0,k1⟩:=HC.out wr hp
      by_cases hlt:k<B.length
      ·have hlt' : (k:Int)<(B.length:Int):=by omega
       obtain ⟨b,off,rfl,hb,x0,x1⟩:=Dots.get (HB0.out wr hp) hlt
       have Hno:=hid (HF0.out k hlt)
       have Hyes:=hid (fun (e:cat0 B k=true)=>allB_next Hal.out e)
       have Hcat:=qh (cat0 B k=(dchk (B.getD k (0,0)) && (decide (k=0) || !decide ((B.getD (k-1) (0,0)).1=(B.getD k (0,0)).1)))) (rfl)
       have hprev:=hid (fun W (hW:Pure wz W) (h0:0<k)=>(show W.cell? ⟨b,off+(k-1)*2,none⟩=some (.int .i64 (B.getD (k-1) (0,0)).1) from by
        obtain ⟨b',off',e',_,y0,_⟩:=Dots.get (HB0.out W hW) (show k-1<B.length by omega)
        cases e';exact y0))
       have hck2:=hid (fun W=>hck.out (B.getD k (0,0)) W)
       generalize B.getD (k-1) (0,0)=y at *
       generalize B.getD k (0,0)=z at *
       obtain ⟨z1,z2⟩:=z
       obtain ⟨y1,y2⟩:=y
       dsimp only at x0 x1 Hcat hck2 hprev
       generalize dchk (z1,z2)=D1 at *
       have Hx:=hid (And.intro hb x0)
       clear hp hb
       go_wp2_with fail
       refine (hck2.out _).mono ?_
       rintro e w3 ⟨rfl,hp3⟩
       have Hp3:=hid (Hp.out.then_ hp3)
       obtain ⟨j0,j1⟩:=HC.out w3 Hp3.out
       have x0':=(hp3.cell Hx.out.1).trans Hx.out.2
       clear hp3 x0 x1 k0 k1
       cases D1 with
       | false =>
         have HF:=hid (Hno.out (by rw [Hcat.out];rfl))
         clear Hyes Hno Hcat hprev
         go_wp2_with fail
         go_quiet (fail)
         go_wp2
         go_ret
         exact ⟨by rw [HF.out];rfl,Hpz.out.then_ (Hp3.out.then_ (pdN _ _))⟩
       | true =>
         by_cases h0:k=0
         ·subst h0
          have HT':=hid (Hyes.out (by rw [Hcat.out];rfl))
          have hd:decide ((0:Int)<((0:Nat):Int))=false:=by decide
          have hd2:decide (((0:Nat):Int) > 0)=false:=by decide
          clear Hyes Hno Hcat hprev
          go_wp2_with fail
          go_quiet (fail)
          go_wp2
          go_roundw
          case rel=>exact ⟨0+1,by omega,by go_num,HT'.out,Hp3.out.then_ (pdN _ _)⟩
          case measure=>simp [RowKit.intOf];omega
         ·have hd:decide ((0:Int)<(k:Int))=true:=by simp;omega
          have hd2:decide ((k:Int) > 0)=true:=by simp;omega
          have hsub:IntKind.i64.wrap ((k:Int)-1)=((k-1:Nat):Int):=by rw [IntWalk.i64_in _ oe];omega
          have hsub2:(k:Int)-1=((k-1:Nat):Int):=by omega
          have hlt2:((k-1:Nat):Int)<(B.length:Int):=by omega
          have hn:(0:Int)≤((k-1:Nat):Int):=by omega
          have y0:=hprev.out w3 Hp3.out oe
          have HT':=hid (fun (e:decide (y1=z1)=false)=>Hyes.out (by rw [Hcat.out,e,Bool.not_false,Bool.or_true];rfl))
          have HF':=hid (fun (e:decide (y1=z1)=true)=>Hno.out (by rw [Hcat.out,e,decide_eq_false h0];rfl))
          clear Hyes Hno Hcat hprev
          have hd3:decide (0<k)=true:=decide_eq_true oe
          by_cases he:y1=z1
          ·have HF:=hid (HF'.out (decide_eq_true he))
           have heb:(y1 == z1)=true:=by simpa using he
           clear HT' HF' he
           go_wp2_with fail
           go_quiet (fail)
           go_wp2
           go_ret
           exact ⟨by rw [HF.out];rfl,Hpz.out.then_ (Hp3.out.then_ (pdN _ _))⟩
          ·have HN:=hid (HT'.out (decide_eq_false he))
           have heb:(y1 == z1)=false:=by simpa using he
           clear HT' HF' he
           go_wp2_with fail
           go_quiet (fail)
           go_wp2
           go_roundw
           case rel=>exact ⟨k+1,by omega,by go_num,HN.out,Hp3.out.then_ (pdN _ _)⟩
           case measure=>simp [RowKit.intOf];omega
      ·have hlt' : ¬(k:Int)<(B.length:Int):=by omega
       obtain rfl:k=B.length:=by omega
       have HallB:=hid Hal.out
       have Hbd:=qh (∀x,0≤cbase B x∧cbase B x≤1099511627776) (fun x=>cbase_bds (fun d hd=>by
        obtain ⟨k,hk,rfl⟩:=get_mem (z:=((0,0):Dot)) hd
        have:=allB_iff.1 HallB.out k hk
        unfold cat0 at this
        rw [Bool.and_eq_true] at this
        exact dchk_iff.1 this.1) x)
       clear hp HF0
       go_wp2
       clear k0 k1
       go_loopw [7] (fun i wr=>∃k:Nat,k≤C.length∧i=.int .i64 k∧allB k (cat1 B C)=true∧Pure wz wr) (fun i _=>C.length-(RowKit.intOf i).toNat)
       case atStart=>exact ⟨0,Nat.zero_le _,rfl,rfl,Hp.out⟩
       case round =>
        obtain ⟨k,hk,rfl,hal,hp⟩:=hrel
        have Hal:=hid hal
        have Hp:=hid hp
        clear hal
        obtain ⟨k0,k1⟩:=HC.out wr hp
        by_cases hlt:k<C.length
        ·have hlt' : (k:Int)<(C.length:Int):=by omega
         obtain ⟨b,off,rfl,hb,x0,x1⟩:=Dots.get (HC0.out wr hp) hlt
         have Hno:=hid (HF1.out k hlt)
         have Hyes:=hid (fun (e:cat1 B C k=true)=>allB_next Hal.out e)
         have Hcat:=qh (cat1 B C k=(dchk (C.getD k (0,0)) && decide (cbase B (C.getD k (0,0)).1+1<(C.getD k (0,0)).2))) (rfl)
         have hck2:=hid (fun W=>hck.out (C.getD k (0,0)) W)
         generalize C.getD k (0,0)=z at *
         obtain ⟨z1,z2⟩:=z
         dsimp only at x0 x1 Hcat hck2
         have hbase0:=hid (fun W (hW:Pure wz W)=>hbs.out z1 W hW)
         have hcb:=Hbd.out z1
         generalize dchk (z1,z2)=D1 at *
         generalize cbase B z1=cb at *
         have Hx:=hid (And.intro hb (And.intro x0 x1))
         clear hp hb
         go_wp2_with fail
         refine (hck2.out _).mono ?_
         rintro e w3 ⟨rfl,hp3⟩
         have Hp3:=hid (Hp.out.then_ hp3)
         have hbase:=hid (fun W (hW:Pure w3 W)=>hbase0.out W (Hp3.out.then_ hW))
         have hS:Hid (∀W,Pure w3 W→(W.cell? ⟨w.heap.size,0,none⟩=some (.slice a0 B.length c0)∧W.cell? ⟨w.heap.size,1,none⟩=some (.slice (some ⟨b,off,none⟩) C.length c1)∧W.cell? ⟨b,off+k*2,none⟩=some (.int .i64 z1)∧W.cell? ⟨b,off+k*2+1,none⟩=some (.int .i64 z2)∧Pure w3 W)):=fun W hW=>by
          obtain ⟨j0,j1⟩:=HC.out W (Hp3.out.then_ hW)
          exact ⟨j0,j1,((hp3.then_ hW).cell Hx.out.1).trans Hx.out.2.1,((hp3.then_ hW).cell Hx.out.1).trans Hx.out.2.2,hW⟩
         have hst:=hid (hS.out w3.drew qv)
         have hS2:Hid (∀W:World,(W.cell? ⟨w.heap.size,0,none⟩=some (.slice a0 B.length c0)∧W.cell? ⟨w.heap.size,1,none⟩=some (.slice (some ⟨b,off,none⟩) C.length c1)∧W.cell? ⟨b,off+k*2,none⟩=some (.int .i64 z1)∧W.cell? ⟨b,off+k*2+1,none⟩=some (.int .i64 z2)∧Pure w3 W)→Pure w3 W):=fun W h=>h.2.2.2.2
         have hw0:IntKind.i64.wrap (cb+1)=cb+1:=IntWalk.i64_in _ oe
         have hwm:IntKind.i64.wrap (k:Int)=(k:Int):=IntWalk.i64_in _ oe
         have Hcb:=hid hcb
         clear hp3 x0 x1 k0 k1 hcb
         cases D1 with
         | false =>
           have HF:=hid (Hno.out (by rw [Hcat.out];rfl))
           clear Hyes Hno Hcat
           go_wp2_with fail
           go_quiet (fail)
           go_wp2
           go_ret
           exact ⟨by rw [HF.out];rfl,Hpz.out.then_ (Hp3.out.then_ (pdN _ _))⟩
         | true =>
           by_cases hlt3:cb+1<z2
           ·have HN:=hid (Hyes.out (by rw [Hcat.out,decide_eq_true hlt3];rfl))
            have hle:decide (z2≤cb+1)=false:=decide_eq_false oe
            clear Hyes Hno Hcat
            go_wp2_with fail
            refine wp_region_held_drew (S:=(fun W=>W.cell? ⟨w.heap.size,0,none⟩=some (.slice a0 B.length c0)∧W.cell? ⟨w.heap.size,1,none⟩=some (.slice (some ⟨b,off,none⟩) C.length c1)∧W.cell? ⟨b,off+k*2,none⟩=some (.int .i64 z1)∧W.cell? ⟨b,off+k*2+1,none⟩=some (.int .i64 z2)∧Pure w3 W)) qk ?_ (fun hHeld=>?_)
            ·first|assumption|with_reducible exact hst.out|with_reducible exact hS.out _ (Pure.then_ (hS2.out _ qa) hp7)
            refine tkA 0 ?_
            refine tkA 1 ?_
            refine tkA 2 ?_
            refine tkA 3 ?_
            refine tkA 4 ?_
            refine tkA 5 ?_
            refine tkA 6 ?_
            refine tkA 7 ?_
            refine tkA 8 ?_
            refine tkA 9 ?_
            refine tkA 10 ?_
            refine tkA 11 ?_
            refine tkA 12 ?_
            refine tkA 13 ?_
            refine tkA 14 ?_
            refine tkA 15 ?_
            refine tkC 16 fun K hK=>?_
            go_simp
            go_at_call 108;(with_reducible refine (hbase.out _ (hS2.out _ qa)).mono ?_);rintro e w7 ⟨rfl,hp7⟩
            refine hK.out _ _ (by first|assumption|with_reducible exact hst.out|with_reducible exact hS.out _ (Pure.then_ (hS2.out _ qa) hp7)) fun hHeld=>?_
            clear hK K
            refine tkA 17 ?_
            refine tkA 18 ?_
            refine tkA 19 ?_
            refine wpAnyH_done qk ?_ _
            have hx:=hid (hS2.out _ qa)
            go_wp2
            go_roundw
            case rel=>exact ⟨k+1,by omega,by go_num,HN.out,Hp3.out.then_ hx.out⟩
            case measure=>simp [RowKit.intOf];omega
           ·have HF:=hid (Hno.out (by rw [Hcat.out,decide_eq_false hlt3];rfl))
            have hle:decide (z2≤cb+1)=true:=decide_eq_true oe
            clear Hyes Hno Hcat
            go_wp2_with fail
            refine wp_region_held_drew (S:=(fun W=>W.cell? ⟨w.heap.size,0,none⟩=some (.slice a0 B.length c0)∧W.cell? ⟨w.heap.size,1,none⟩=some (.slice (some ⟨b,off,none⟩) C.length c1)∧W.cell? ⟨b,off+k*2,none⟩=some (.int .i64 z1)∧W.cell? ⟨b,off+k*2+1,none⟩=some (.int .i64 z2)∧Pure w3 W)) qk ?_ (fun hHeld=>?_)
            ·first|assumption|with_reducible exact hst.out|with_reducible exact hS.out _ (Pure.then_ (hS2.out _ qa) hp7)
            refine tkA 0 ?_
            refine tkA 1 ?_
            refine tkA 2 ?_
            refine tkA 3 ?_
            refine tkA 4 ?_
            refine tkA 5 ?_
            refine tkA 6 ?_
            refine tkA 7 ?_
            refine tkA 8 ?_
            refine tkA 9 ?_
            refine tkA 10 ?_
            refine tkA 11 ?_
            refine tkA 12 ?_
            refine tkA 13 ?_
            refine tkA 14 ?_
            refine tkA 15 ?_
            refine tkC 16 fun K hK=>?_
            go_simp
            go_at_call 108;(with_reducible refine (hbase.out _ (hS2.out _ qa)).mono ?_);rintro e w7 ⟨rfl,hp7⟩
            refine hK.out _ _ (by first|assumption|with_reducible exact hst.out|with_reducible exact hS.out _ (Pure.then_ (hS2.out _ qa) hp7)) fun hHeld=>?_
            clear hK K
            refine tkA 17 ?_
            refine tkA 18 ?_
            refine tkA 19 ?_
            refine wpAnyH_done qk ?_ _
            have hx:=hid (hS2.out _ qa)
            go_wp2
            go_ret
            exact ⟨by rw [HF.out];rfl,Hpz.out.then_ (Hp3.out.then_ hx.out)⟩
        ·have hlt' : ¬(k:Int)<(C.length:Int):=by omega
         obtain rfl:k=C.length:=by omega
         have HT':=hid (HT.out HallB.out Hal.out)
         clear hp
         go_wp2
         go_ret
         exact ⟨by rw [HT'.out];rfl,Hpz.out.then_ Hp.out⟩
theorem rcread_any (b:Nat) (s:RS) (w:World) (h:RdAt 98 b s w) :
 Calls Tryz.prog 111 #[.pointer (some ⟨b,0,none⟩)] w (RdCtxP 98 b (rdCtx s).1 (rdCtx s).2 w):=by
 have hb:=h.lt
 have Hb:=hid hb
 have hrow:=hid (fun s W (hW:RdAt 98 b s W)=>rreadrow_any b s 1000 W hW qd qd)
 have hchk:=hid (fun vb vc B C W h1 h2 l1 l2=>rcchk_any vb vc B C W h1 h2 l1 l2)
 unfold RdRowP at hrow
 have Hd:Hid (rdCtx s=match rdRow 1000 (rdRow 1000 s).2 with
  | (_,none)=>(([],[]),none)
  | (C,some r)=>if cchk (rdRow 1000 s).1 C then (((rdRow 1000 s).1,C),some r) else (([],[]),none)):=(show _=_ from rfl)
 have hl1:=rdRow_len s
 have hl2:=rdRow_len (rdRow 1000 s).2
 have hi1:=hid (hrow.out s)
 have hi2:=hid (hrow.out (rdRow 1000 s).2)
 generalize rdCtx s=R at *
 generalize rdRow 1000 (rdRow 1000 s).2=N2 at *
 generalize rdRow 1000 s=N1 at *
 obtain ⟨B,s1⟩:=N1
 obtain ⟨C,s2⟩:=N2
 dsimp only at hi1 hi2 Hd hl1 hl2
 clear hrow
 obtain ⟨wz,hwz⟩:=qe (w.alloc (.cells #[.slice none 0 0,.slice none 0 0] 32))
 have Hz:=qh (RdK 98 b s w wz) (by rw [hwz];exact (RdK.start h).alloc _)
 have Bz:=qh (wz.heap[w.heap.size]?=some (.cells #[.slice none 0 0,.slice none 0 0] 32 (0,0))) (by rw [hwz];exact ban _ _)
 have Sz:=qh (wz.heap.size=w.heap.size+1) (by rw [hwz];simp)
 clear h
 go_enter Tryz.func111,Tryz.ntmps111
 go_wp2_with fail
 rw [←hwz]
 clear hwz
 refine (hi1.out wz Hz.out.r).mono ?_
 rintro e w1 ⟨u0,rfl,hd1,hf1,hr1,hk1⟩
 obtain ⟨a0,c0,rfl⟩:=hd1.shape
 have Z1:=hid (block_kept Bz.out hk1 oe)
 have hlt1:=qh (w.heap.size+1≤w1.heap.size) (by have:=hk1.size;have:=Sz.out;omega)
 have hf1':=qh (∀k,(Value.slice a0 B.length c0).rb=some k→w.heap.size<k∧k<w1.heap.size) (fun k hk=>by have:=hf1 k hk;have:=Sz.out;have:=Row.lt hd1 k hk;omega)
 obtain ⟨v1,hv1⟩:=qe (w1.alloc (.cells #[.slice a0 B.length c0,.slice none 0 0] 32))
 have H1:=qh (RdK 98 b s1 w v1) (by rw [hv1];exact (Hz.out.next hr1 hk1).alloc _)
 have D1:=qh (Dots v1 (.slice a0 B.length c0) B) (by rw [hv1];exact Row.pure hd1 qp)
 have Y1:=qh (v1.heap[w1.heap.size]?=some (.cells #[.slice a0 B.length c0,.slice none 0 0] 32 (0,0))) (by rw [hv1];exact ban _ _)
 have Q1:=qh (v1.heap[w.heap.size]?=some (.cells #[.slice none 0 0,.slice none 0 0] 32 (0,0))) (by rw [hv1];exact bao Z1.out _)
 have S1:=qh (v1.heap.size=w1.heap.size+1) (by rw [hv1];simp)
 clear hr1 hk1 Z1 Bz Hz hi1 hd1 hf1
 go_wp2_with fail
 rw [←hv1]
 clear hv1
 generalize w1.heap.size=n at *
 refine (hi2.out v1 H1.out.r).mono ?_
 rintro e w2 ⟨u1,rfl,hd2,hf2,hr2,hk2⟩
 obtain ⟨a1,c1,rfl⟩:=hd2.shape
 have hf2':=qh (∀k,(Value.slice a1 C.length c1).rb=some k→n<k) (fun k hk=>by have:=hf2 k hk;have:=S1.out;omega)
 have Y2:=block_kept Y1.out hk2 (by have:=hlt1.out;omega)
 have Q2:=block_kept Q1.out hk2 oe
 have H2:=hid (H1.out.next hr2 hk2)
 have D2:=hid (Dots.kept D1.out hk2 (fun k hk e=>by have:=(hf1'.out k hk).1;omega))
 have q1:=cob Y2 1
 have f1:=fob Y2 1
 simp at q1
 obtain ⟨v2,hv2⟩:=qe (w2.setCell ⟨n,1,none⟩ (.slice a1 C.length c1))
 have K2:=qh (Kept (fun k=>k=n) w2 v2) (by rw [hv2];exact kset _ _ _ _)
 have D3:=qh (CR (.slice a0 B.length c0) (.slice a1 C.length c1) (B,C) v2) (⟨Dots.kept D2.out K2.out (fun k hk e=>by have:=(hf1'.out k hk).2;omega),Dots.kept hd2 K2.out (fun k hk e=>by have:=hf2'.out k hk;omega)⟩)
 have Y3:=qh (v2.heap[n]?=some (.cells #[.slice a0 B.length c0,.slice a1 C.length c1] 32 (0,0))) (by rw [hv2];have:=bsc Y2 1 (.slice a1 C.length c1);simpa using this)
 have Q3:=qh (v2.heap[w.heap.size]?=some (.cells #[.slice none 0 0,.slice none 0 0] 32 (0,0))) (by rw [hv2];exact bso Q2 _ (by show ¬n=_;have:=hlt1.out;omega) _)
 have H3:=qh (RdK 98 b s2 w v2) (by rw [hv2];exact H2.out.set (by have:=hlt1.out;omega) (by have:=hlt1.out;omega) _)
 clear hr2 hk2 Y1 Q1 H1 H2 hi2 Y2 Q2 hd2 hf2 D2 D1 K2
 go_upto_region 3 with fail
 rw [←hv2]
 clear hv2 q1 f1
 obtain ⟨l,t,p0,p1,g0,g1,ht,-⟩:=H3.out.r.parts
 have hnb:=qh (n≠b∧w.heap.size<n) (by have:=hlt1.out;omega)
 have hbn:¬b=w.heap.size:=by omega
 have e0:=cob Q3.out 0
 have e1:=cob Q3.out 1
 have e2:=fob Q3.out 0
 have e3:=fob Q3.out 1
 simp at e0 e1
 have Htorn:=qh (∀W,RdK 98 b s2 w W→W.heap[w.heap.size]?=some (.cells #[.slice none 0 0,.slice none 0 0] 32 (0,0))→R=(([],[]),none)→RdCtxP 98 b R.1 R.2 w (.returned (.agg #[.slice none 0 0,.slice none 0 0])) (((W.setCell ⟨b,1,none⟩ (.bool true)).setCell ⟨w.heap.size,0,none⟩ (.slice none 0 0)).setCell ⟨w.heap.size,1,none⟩ (.slice none 0 0))∧(((W.setCell ⟨b,1,none⟩ (.bool true)).setCell ⟨w.heap.size,0,none⟩ (.slice none 0 0)).setCell ⟨w.heap.size,1,none⟩ (.slice none 0 0)).heap[w.heap.size]?=some (.cells #[.slice none 0 0,.slice none 0 0] 32 (0,0))) (fun W hW hQ hR=>by
  have hS:=(hW.tear.set (Nat.le_refl w.heap.size) (i:=0) oe (.slice none 0 0)).set (Nat.le_refl w.heap.size) (i:=1) oe (.slice none 0 0)
  have hB:=bso hQ (v:=.bool true) (p:=⟨b,1,none⟩) (by show ¬b=_;omega)
  rw [hR]
  exact ⟨⟨_,_,rfl,⟨Row.nil _ _,Row.nil _ _⟩,fun k hk=>by simp [Value.rb] at hk,fun k hk=>by simp [Value.rb] at hk,hS.r,hS.k⟩,set2d hB _ _⟩)
 cases s2 with
 | none =>
   have ht' : t=true:=ht
   subst ht'
   obtain ⟨HT,HB⟩:=Htorn.out v2 H3.out Q3.out (show R=(([],[]),none) from Hd.out)
   have HT':=hid HT
   have HB':=hid HB
   clear HT HB ht
   go_wp2
   exact bodyPost_ret (v:=.agg #[.slice none 0 0,.slice none 0 0]) (by simp [results,Tryz.results111,go_sem,cob HB'.out 0,cob HB'.out 1]) rfl HT'.out
 | some r =>
   have ht' : t=false:=ht
   subst ht'
   have Hd2:=qh (R=if cchk B C then ((B,C),some r) else (([],[]),none)) (Hd.out)
   have y0:=cob Y3.out 0
   have y1:=cob Y3.out 1
   simp at y0 y1
   clear ht
   go_wp2_with fail
   refine (hchk.out _ _ B C v2 D3.out.1 D3.out.2 oe oe).mono ?_
   rintro e w4 ⟨rfl,hp4⟩
   have H5:=hid (H3.out.pure hp4)
   have Y5:=hid ((hp4.block _ (lob Y3.out)).trans Y3.out)
   have Q5:=hid ((hp4.block _ (lob Q3.out)).trans Q3.out)
   have D5:=hid (D3.out.pure hp4)
   clear p0 p1 g0 g1 e0 e1 e2 e3 y0 y1 hp4
   obtain ⟨l,t,p0,p1,g0,g1,-,-⟩:=H5.out.r.parts
   have e0:=cob Q5.out 0
   have e1:=cob Q5.out 1
   have e2:=fob Q5.out 0
   have e3:=fob Q5.out 1
   simp at e0 e1
   unfold er1
   cases hc:cchk B C with
   | false =>
     obtain ⟨HT,HB⟩:=Htorn.out w4 H5.out Q5.out (by rw [Hd2.out,hc];rfl)
     have HT':=hid HT
     have HB':=hid HB
     clear hc HT HB
     go_wp2
     exact bodyPost_ret (v:=.agg #[.slice none 0 0,.slice none 0 0]) (by simp [results,Tryz.results111,go_sem,cob HB'.out 0,cob HB'.out 1]) rfl HT'.out
   | true =>
     have HR:=qh (R=((B,C),some r)) (by rw [Hd2.out,hc];rfl)
     have z0:=cob Y5.out 0
     have z1:=cob Y5.out 1
     simp at z0 z1
     have Hset:=qh (RdK 98 b (some r) w ((w4.setCell ⟨w.heap.size,0,none⟩ (.slice a0 B.length c0)).setCell ⟨w.heap.size,1,none⟩ (.slice a1 C.length c1))) ((H5.out.set (Nat.le_refl _) oe _).set (Nat.le_refl _) oe _)
     have Kset:=hid ((kset w4 w.heap.size 0 (.slice a0 B.length c0)).trans (kset _ w.heap.size 1 (.slice a1 C.length c1)))
     have Bset:=hid (set2d Q5.out (.slice a0 B.length c0) (.slice a1 C.length c1))
     have F0:=qh (∀k,(Value.slice a0 B.length c0).rb=some k→w.heap.size<k) (fun k hk=>(hf1'.out k hk).1)
     have F1:=qh (∀k,(Value.slice a1 C.length c1).rb=some k→w.heap.size<k) (fun k hk=>by have:=hf2'.out k hk;have:=hnb.out;omega)
     clear hc
     go_wp2
     exact bodyPost_ret (v:=.agg #[.slice a0 B.length c0,.slice a1 C.length c1]) (by simp [results,Tryz.results111,go_sem,cob Bset.out 0,cob Bset.out 1]) rfl ⟨_,_,rfl,by rw [HR.out];exact ⟨Dots.kept D5.out.1 Kset.out (fun k hk e=>by have:=F0.out k hk;omega),Dots.kept D5.out.2 Kset.out (fun k hk e=>by have:=F1.out k hk;omega)⟩,fun k hk=>Nat.le_of_lt (F0.out k hk),fun k hk=>Nat.le_of_lt (F1.out k hk),by rw [HR.out];exact Hset.out.r,Hset.out.k⟩
end Go.Proofs.YtdlpnhfgjficgaaGreat
