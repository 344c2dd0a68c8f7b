import Derived.Test.YtdlpnhfgjficgaaGreatMJm
import Derived.Test.YtdlpnhfgjficgaaGreatRW
namespace Go.Proofs.YtdlpnhfgjficgaaGreat
section
set_option maxHeartbeats 2000000
set_option maxRecDepth 8000
open Go.RowKit Go.Maps Go.Shelf Go.Sort
theorem risesb_any (v:Value) (l:List Dot) (w:World) (hr:Dots w v l) (hl:l.length≤100000) :
 Calls Tryz.prog 202 #[v] w fun e w'=>e=.returned (.bool (riseb l))∧Pure w w':=by
 have HB:=qh (∀k,k<l.length→riseAt l k=false→riseb l=false) (fun k h e=>allB_false h e)
 have HE:=qh (allB l.length (riseAt l)=true→riseb l=true) (fun h=>h)
 generalize riseb l=R at *
 obtain ⟨a,cap,rfl⟩:=hr.shape
 have Hr:=hid hr
 have hless:=hid (fun x y W=>less_any x y W)
 clear hr
 unfold dv at *
 go_enter Tryz.func202,Tryz.ntmps202
 go_wp2_with fail
 go_loopw [7] (fun i wr=>∃k:Nat,k≤l.length∧i=.int .i64 k∧allB k (riseAt l)=true∧Pure w wr) (fun i _=>l.length-(RowKit.intOf i).toNat)
 case atStart=>exact ⟨0,Nat.zero_le _,rfl,rfl,Below.refl _ _⟩
 case round =>
  obtain ⟨k,hk,rfl,hal,hp⟩:=hrel
  have Hal:=hid hal
  clear hal
  have Hp:=hid hp
  by_cases hlt:k<l.length
  ·have hlt' : (k:Int)<(l.length:Int):=by omega
   have Hrow:=qh (Dots wr (.slice a l.length cap) l) (Row.pure Hr.out hp)
   obtain ⟨b,off,rfl,hb,x0,x1⟩:=Dots.get Hrow.out hlt
   have Hcell:=qh (∀o,Pure wr (wr.alloc o).drew) (fun o=>((Below.refl _ _).alloc (Nat.le_refl _) o).drew)
   have hbk:=fun (z:Dot)=>qh ((wr.alloc (.cells #[.int .i64 z.1,.int .i64 z.2] 28)).drew.cell? ⟨wr.heap.size,0,none⟩=some (.int .i64 z.1)∧(wr.alloc (.cells #[.int .i64 z.1,.int .i64 z.2] 28)).drew.cell? ⟨wr.heap.size,1,none⟩=some (.int .i64 z.2)) (by
    have:=ban wr (.cells #[.int .i64 z.1,.int .i64 z.2] 28)
    exact ⟨cob this 0,cob this 1⟩)
   by_cases h0:0<k
   ·have h0' : (0:Int)<(k:Int):=by omega
    obtain ⟨D,hD⟩:=qe (dlt (l.getD (k-1) (0,0)) (l.getD k (0,0)))
    have Hno:=hid (fun (e:D=false)=>HB.out k hlt (by unfold riseAt;rw [decide_eq_false oe,←hD,e];rfl))
    have Hyes:=hid (fun (e:D=true)=>allB_next Hal.out (show riseAt l k=true from by unfold riseAt;rw [←hD,e,Bool.or_true]))
    have hsub:IntKind.i64.wrap ((k:Int)-1)=((k-1:Nat):Int):=by rw [IntWalk.i64_in _ oe];omega
    have hsub2:(k:Int)-1=((k-1:Nat):Int):=by omega
    have hlt2:((k-1:Nat):Int)<(l.length:Int):=by omega
    obtain ⟨b',off',e',hb',y0,y1⟩:=Dots.get Hrow.out (show k-1<l.length by omega)
    cases e'
    have hn:(0:Int)≤((k-1:Nat):Int):=by omega
    have Hbz:=hbk (l.getD k (0,0))
    have hless2:=hid (fun W=>hless.out (l.getD (k-1) (0,0)) (l.getD k (0,0)) W)
    rw [←hD] at hless2
    clear hD
    generalize l.getD k (0,0)=z at *
    generalize l.getD (k-1) (0,0)=y at *
    obtain ⟨z1,z2⟩:=z
    obtain ⟨q1,q2⟩:=y
    dsimp only at x0 x1 y0 y1 Hbz hless2
    clear hbk
    have hS:Hid (∀W,Pure (wr.alloc (.cells #[.int .i64 z1,.int .i64 z2] 28)).drew W→(W.cell? ⟨b,off+(k-1)*2,none⟩=some (.int .i64 q1)∧W.cell? ⟨b,off+(k-1)*2+1,none⟩=some (.int .i64 q2)∧W.cell? ⟨wr.heap.size,0,none⟩=some (.int .i64 z1)∧W.cell? ⟨wr.heap.size,1,none⟩=some (.int .i64 z2)∧Pure (wr.alloc (.cells #[.int .i64 z1,.int .i64 z2] 28)).drew W)):=fun W hW=>by
     have hwb:=Pure.then_ (Hcell.out _) hW
     obtain ⟨e0,e1⟩:=Hbz.out
     exact ⟨(hwb.cell hb').trans y0,(hwb.cell hb').trans y1,(hW.cell (p:=⟨wr.heap.size,0,none⟩) qb).trans e0,(hW.cell (p:=⟨wr.heap.size,1,none⟩) qb).trans e1,hW⟩
    have hst:=hid (hS.out _ (Below.refl _ _))
    have hS2:Hid (∀W:World,(W.cell? ⟨b,off+(k-1)*2,none⟩=some (.int .i64 q1)∧W.cell? ⟨b,off+(k-1)*2+1,none⟩=some (.int .i64 q2)∧W.cell? ⟨wr.heap.size,0,none⟩=some (.int .i64 z1)∧W.cell? ⟨wr.heap.size,1,none⟩=some (.int .i64 z2)∧Pure (wr.alloc (.cells #[.int .i64 z1,.int .i64 z2] 28)).drew W)→Pure (wr.alloc (.cells #[.int .i64 z1,.int .i64 z2] 28)).drew W):=fun W h=>h.2.2.2.2
    clear hp hb hb' y0 y1
    generalize hj:k-1=j at *
    have hwm:IntKind.i64.wrap (j:Int)=(j:Int):=IntWalk.i64_in _ oe
    cases D with
    | false =>
      have hRf:=Hno.out rfl
      have HR:=hid hRf
      clear hRf Hno Hyes
      go_wp2_with fail
      go_region_held3 (fun W=>W.cell? ⟨b,off+j*2,none⟩=some (.int .i64 q1)∧W.cell? ⟨b,off+j*2+1,none⟩=some (.int .i64 q2)∧W.cell? ⟨wr.heap.size,0,none⟩=some (.int .i64 z1)∧W.cell? ⟨wr.heap.size,1,none⟩=some (.int .i64 z2)∧Pure (wr.alloc (.cells #[.int .i64 z1,.int .i64 z2] 28)).drew W)
       (exact qz)
       ((go_at_call 145;(with_reducible refine (hless2.out _).mono ?_);rintro e w7 ⟨rfl,hp7⟩))
      have hx:=hid (Hp.out.then_ (Pure.then_ (Hcell.out _) (hS2.out w7 qa)))
      clear hp7 hst hS hS2
      go_wp2
      go_ret
      exact ⟨by rw [HR.out];rfl,hx.out⟩
    | true =>
      have HN:=hid (Hyes.out rfl)
      clear Hno Hyes
      go_wp2_with fail
      go_region_held3 (fun W=>W.cell? ⟨b,off+j*2,none⟩=some (.int .i64 q1)∧W.cell? ⟨b,off+j*2+1,none⟩=some (.int .i64 q2)∧W.cell? ⟨wr.heap.size,0,none⟩=some (.int .i64 z1)∧W.cell? ⟨wr.heap.size,1,none⟩=some (.int .i64 z2)∧Pure (wr.alloc (.cells #[.int .i64 z1,.int .i64 z2] 28)).drew W)
       (exact qz)
       ((go_at_call 145;(with_reducible refine (hless2.out _).mono ?_);rintro e w7 ⟨rfl,hp7⟩))
      have hx:=hid (Hp.out.then_ (Pure.then_ (Hcell.out _) (hS2.out w7 qa)))
      clear hp7 hst hS hS2
      go_wp2
      go_roundw
      case rel=>exact ⟨k+1,by omega,by go_num,HN.out,hx.out⟩
      case measure=>simp [RowKit.intOf];omega
   ·have hg:decide ((0:Int)<(k:Int))=false:=by simp;omega
    generalize l.getD k (0,0)=z at *
    obtain ⟨z1,z2⟩:=z
    dsimp only at x0 x1
    have HN:=hid (allB_next Hal.out (show riseAt l k=true from by unfold riseAt;rw [decide_eq_true oe];rfl))
    have hfin:Hid (∀o,Pure w (wr.alloc o)):=fun o=>Hp.out.alloc Hp.out.size o
    clear hp hb hbk
    go_wp2_with fail
    go_quiet (fail)
    go_wp2
    go_roundw
    case rel=>exact ⟨k+1,by omega,by go_num,HN.out,(hfin.out _).then_ (pdN _ _)⟩
    case measure=>simp [RowKit.intOf];omega
  ·obtain rfl:k=l.length:=by omega
   have hlt' : ¬(l.length:Int)<(l.length:Int):=by omega
   clear hp
   go_wp2
   go_ret
   exact ⟨by rw [HE.out Hal.out];rfl,Hp.out⟩
end
section
set_option maxHeartbeats 4000000
set_option maxRecDepth 8000
open Go.RowKit Go.Maps Go.Shelf Go.Sort
def errOf (b:Bool):Int:=if b then 0 else 1
theorem checkb_any (vb vc:Value) (B C:List Dot) (w:World) (h1:Dots w vb B) (h2:Dots w vc C) (hl1:B.length≤100000) (hl2:C.length≤100000) :
 Calls Tryz.prog 175 #[cv vb vc] w fun e w'=>e=.returned (.int .i64 (errOf (cchk B C)))∧Pure w w':=by
 obtain ⟨a0,c0,rfl⟩:=h1.shape
 obtain ⟨a1,c1,rfl⟩:=h2.shape
 obtain ⟨wz,hwz⟩:=qe (w.alloc (.cells #[.slice a0 B.length c0,.slice a1 C.length c1] 32))
 have Hpz:=qh (Pure w wz) (by rw [hwz];exact qp)
 have hbk:Hid (wz.heap[w.heap.size]?=some (.cells #[.slice a0 B.length c0,.slice a1 C.length c1] 32 (0,0))):=by
  show wz.heap[w.heap.size]?=_
  rw [hwz]
  exact ban _ _
 have hC:Hid (∀W,Pure wz W→(W.cell? ⟨w.heap.size,0,none⟩=some (.slice a0 B.length c0)∧W.cell? ⟨w.heap.size,1,none⟩=some (.slice a1 C.length c1))):=fun W hW=>by
  have e0:=(hW.block _ (lob hbk.out)).trans hbk.out
  exact ⟨cob e0 0,cob e0 1⟩
 have HB:=hid (fun W (hW:Pure wz W)=>(Row.pure h1 (Hpz.out.then_ hW):Dots W (.slice a0 B.length c0) B))
 have HC:=hid (fun W (hW:Pure wz W)=>(Row.pure h2 (Hpz.out.then_ hW):Dots W (.slice a1 C.length c1) C))
 have hr1:=hid (fun W (hW:Pure wz W)=>risesb_any _ B W (HB.out W hW) oe)
 have hr2:=hid (fun W (hW:Pure wz W)=>risesb_any _ C W (HC.out W hW) oe)
 have hck:=hid (fun z W=>chk_any z W)
 have hup:=hid (fun (hR:Rise B) (h0:∀d ∈ B,0≤d.2) W x (hW:Pure wz W)=>upto_any _ (.slice a1 C.length c1) B x W (HB.out W hW) hR h0 oe)
 have Hbad:=qh ((riseb B=false∨riseb C=false∨allB B.length (cat0 B)=false∨allB C.length (cat1 B C)=false)→errOf (cchk B C)=1) (fun h=>by
  unfold cchk
  rcases h with h|h|h|h <;> rw [h] <;> simp [errOf])
 have Hgood:=qh (riseb B=true→riseb C=true→allB B.length (cat0 B)=true→allB C.length (cat1 B C)=true→errOf (cchk B C)=0) (fun h1 h2 h3 h4=>by
  unfold cchk
  rw [h1,h2,h3,h4];rfl)
 generalize errOf (cchk B C)=E at *
 obtain ⟨g0,g1⟩:=hC.out wz (Below.refl _ _)
 clear h1 h2
 unfold dv cv at *
 cases hrB:riseb B with
 | false =>
   have HE:=hid (Hbad.out (.inl hrB))
   rw [hrB] at hr1
   clear hrB
   go_enter Tryz.func175,Tryz.ntmps175
   go_wp2_with fail
   rw [←hwz]
   clear hwz
   refine (hr1.out wz (Below.refl _ _)).mono ?_
   rintro e w1 ⟨rfl,hp1⟩
   have hx:=hid hp1
   clear hp1
   go_wp2
   go_ret
   exact ⟨by rw [HE.out];rfl,Hpz.out.then_ hx.out⟩
 | true =>
 cases hrC:riseb C with
 | false =>
   have HE:=hid (Hbad.out (.inr (.inl hrC)))
   rw [hrB] at hr1
   rw [hrC] at hr2
   clear hrB hrC
   go_enter Tryz.func175,Tryz.ntmps175
   go_wp2_with fail
   rw [←hwz]
   clear hwz
   refine (hr1.out wz (Below.refl _ _)).mono ?_
   rintro e w1 ⟨rfl,hp1⟩
   have Hp1:=hid hp1
   obtain ⟨g0,g1⟩:=hC.out w1 hp1
   clear hp1
   go_wp2_with fail
   refine (hr2.out w1 Hp1.out).mono ?_
   rintro e w2 ⟨rfl,hp2⟩
   have hx:=hid (Hp1.out.then_ hp2)
   clear hp2
   go_wp2
   go_ret
   exact ⟨by rw [HE.out];rfl,Hpz.out.then_ hx.out⟩
 | true =>
 rw [hrB] at hr1
 rw [hrC] at hr2
 have HrB:=hid hrB
 have HrC:=hid hrC
 clear hrB hrC
 go_enter Tryz.func175,Tryz.ntmps175
 go_wp2_with fail
 rw [←hwz]
 clear hwz
 refine (hr1.out wz (Below.refl _ _)).mono ?_
 rintro e w1 ⟨rfl,hp1⟩
 have Hp1:=hid hp1
 obtain ⟨g0,g1⟩:=hC.out w1 hp1
 clear hp1
 go_wp2_with fail
 refine (hr2.out w1 Hp1.out).mono ?_
 rintro e w2 ⟨rfl,hp2⟩
 have Hp2:=hid (Hp1.out.then_ hp2)
 obtain ⟨g0,g1⟩:=hC.out w2 Hp2.out
 clear hp2
 go_wp2_with fail
 go_loopw [20] (fun i wr=>∃k:Nat,k≤B.length∧i=.int .i64 k∧allB k (cat0 B)=true∧Pure wz wr) (fun i _=>B.length-(RowKit.intOf i).toNat)
 case atStart=>exact ⟨0,Nat.zero_le _,rfl,rfl,Hp2.out⟩
 case round =>
  obtain ⟨k,hk,rfl,hal,hp⟩:=hrel
  have Hp:=hid hp
  have Hal:=hid hal
  clear hal
  by_cases hlt:k<B.length
  ·have hlt' : (k:Int)<(B.length:Int):=by omega
   have Hrow:=hid (HB.out wr hp)
   obtain ⟨b,off,rfl,hb,x0,x1⟩:=Dots.get Hrow.out hlt
   obtain ⟨Wd,hWd⟩:=qe (wr.alloc (.cells #[.int .i64 (B.getD k (0,0)).1,.int .i64 (B.getD k (0,0)).2] 28))
   have hpd:Pure wr Wd:=by rw [hWd];exact qp
   have hbd:Wd.heap[wr.heap.size]?=some (.cells #[.int .i64 (B.getD k (0,0)).1,.int .i64 (B.getD k (0,0)).2] 28 (0,0)):=by rw [hWd];exact ban _ _
   have hck2:=hid (fun W=>hck.out (B.getD k (0,0)) W)
   obtain ⟨D,hD⟩:=qe (dchk (B.getD k (0,0)))
   rw [←hD] at hck2
   cases D with
   | false =>
     have HE:=hid (Hbad.out (.inr (.inr (.inl (allB_false hlt (by unfold cat0;rw [←hD];rfl))))))
     clear hD
     generalize B.getD k (0,0)=z at *
     obtain ⟨z1,z2⟩:=z
     dsimp only at x0 x1 hbd hWd hck2
     have hS:Hid (∀W,Pure Wd W→(W.cell? ⟨wr.heap.size,0,none⟩=some (.int .i64 z1)∧W.cell? ⟨wr.heap.size,1,none⟩=some (.int .i64 z2)∧Pure Wd W)):=fun W hW=>by
      have ed:=(hW.block _ (lob hbd)).trans hbd
      exact ⟨cob ed 0,cob ed 1,hW⟩
     have hst:=hid (hS.out Wd.drew qv)
     have hS2:Hid (∀W:World,(W.cell? ⟨wr.heap.size,0,none⟩=some (.int .i64 z1)∧W.cell? ⟨wr.heap.size,1,none⟩=some (.int .i64 z2)∧Pure Wd W)→Pure Wd W):=fun W h=>h.2.2
     have Hpd:=hid hpd
     clear hp hb hbd hpd
     go_wp2_with fail
     rw [←hWd]
     clear hWd
     refine wp_region_held_drew (S:=(fun W=>W.cell? ⟨wr.heap.size,0,none⟩=some (.int .i64 z1)∧W.cell? ⟨wr.heap.size,1,none⟩=some (.int .i64 z2)∧Pure Wd W)) qk ?_ (fun hHeld=>?_)
     ·exact qz
     refine tkA 0 ?_
     refine tkC 1 fun K hK=>?_
     go_simp
     go_at_call 176;(with_reducible refine (hck2.out _).mono ?_);rintro e w7 ⟨rfl,hp7⟩;go_wp2_with fail
     refine hK.out _ _ qz fun hHeld=>?_
     clear hK K
     refine tkA 2 ?_
     refine tkA 3 ?_
     refine tkU 4 ?_
     refine tkU 5 ?_
     refine tkU 6 ?_
     refine tkU 7 ?_
     refine tkU 8 ?_
     refine tkU 9 ?_
     refine tkU 10 ?_
     refine tkU 11 ?_
     refine tkU 12 ?_
     refine tkU 13 ?_
     refine tkU 14 ?_
     refine tkU 15 ?_
     refine tkU 16 ?_
     refine tkU 17 ?_
     refine tkA 18 ?_
     refine wpAnyH_done qk ?_ _
     have hx:=hid (Hp.out.then_ (Pure.then_ Hpd.out (hS2.out w7 qa)))
     clear hp7 hst hS hS2
     go_wp2
     go_ret
     exact ⟨by rw [HE.out];rfl,Hpz.out.then_ hx.out⟩
   | true =>
   have HD:=hid hD
   clear hD
   by_cases h0:0<k
   ·have h0' : (0:Int)<(k:Int):=by omega
    have hsub:IntKind.i64.wrap ((k:Int)-1)=((k-1:Nat):Int):=by rw [IntWalk.i64_in _ oe];omega
    have hsub2:(k:Int)-1=((k-1:Nat):Int):=by omega
    have hlt2:((k-1:Nat):Int)<(B.length:Int):=by omega
    have hn:(0:Int)≤((k-1:Nat):Int):=by omega
    have hwm:IntKind.i64.wrap (((k-1:Nat):Nat):Int)=((k-1:Nat):Int):=IntWalk.i64_in _ oe
    obtain ⟨b',off',e',hb',y0,y1⟩:=Dots.get Hrow.out (show k-1<B.length by omega)
    cases e'
    have Hno:=hid (fun (e:(B.getD (k-1) (0,0)).1=(B.getD k (0,0)).1)=>Hbad.out (.inr (.inr (.inl (allB_false hlt (show cat0 B k=false from by unfold cat0;rw [decide_eq_false (show ¬k=0 by omega),decide_eq_true e];simp))))))
    have Hyes:=hid (fun (e:(B.getD (k-1) (0,0)).1≠(B.getD k (0,0)).1)=>allB_next Hal.out (show cat0 B k=true from by unfold cat0;rw [←HD.out,decide_eq_false e];simp))
    generalize B.getD k (0,0)=z at *
    generalize B.getD (k-1) (0,0)=y at *
    obtain ⟨z1,z2⟩:=z
    obtain ⟨q1,q2⟩:=y
    dsimp only at x0 x1 y0 y1 hbd hWd hck2 Hno Hyes
    by_cases hq:q1=z1
    ·have hqz:(q1 == z1)=true:=by simp [hq]
     have HE:=hid (Hno.out hq)
     clear Hno Hyes hq
     have hS:Hid (∀W,Pure Wd W→(W.cell? ⟨w.heap.size,0,none⟩=some (.slice (some ⟨b,off,none⟩) B.length c0)∧W.cell? ⟨b,off+(k-1)*2,none⟩=some (.int .i64 q1)∧W.cell? ⟨wr.heap.size,0,none⟩=some (.int .i64 z1)∧W.cell? ⟨wr.heap.size,1,none⟩=some (.int .i64 z2)∧Pure Wd W)):=fun W hW=>by
      have hwb:=Pure.then_ hpd hW
      have ed:=(hW.block _ (lob hbd)).trans hbd
      exact ⟨(hC.out W (hp.then_ hwb)).1,(hwb.cell hb').trans y0,cob ed 0,cob ed 1,hW⟩
     have hst:=hid (hS.out Wd.drew qv)
     have hS2:Hid (∀W:World,(W.cell? ⟨w.heap.size,0,none⟩=some (.slice (some ⟨b,off,none⟩) B.length c0)∧W.cell? ⟨b,off+(k-1)*2,none⟩=some (.int .i64 q1)∧W.cell? ⟨wr.heap.size,0,none⟩=some (.int .i64 z1)∧W.cell? ⟨wr.heap.size,1,none⟩=some (.int .i64 z2)∧Pure Wd W)→Pure Wd W):=fun W h=>h.2.2.2.2
     have Hpd:=hid hpd
     clear hp hb hb' y0 y1 hbd hpd
     generalize hj:k-1=j at *
     go_wp2_with fail
     rw [←hWd]
     clear hWd
     first
     | go_region_held3 (fun W=>W.cell? ⟨w.heap.size,0,none⟩=some (.slice (some ⟨b,off,none⟩) B.length c0)∧W.cell? ⟨b,off+j*2,none⟩=some (.int .i64 q1)∧W.cell? ⟨wr.heap.size,0,none⟩=some (.int .i64 z1)∧W.cell? ⟨wr.heap.size,1,none⟩=some (.int .i64 z2)∧Pure Wd W)
        (exact qz)
        ((go_at_call 176;(with_reducible refine (hck2.out _).mono ?_);rintro e w7 ⟨rfl,hp7⟩))
     | fail
     have hx:=hid (Hp.out.then_ (Pure.then_ Hpd.out (hS2.out w7 qa)))
     clear hp7 hst hS hS2
     go_wp2
     go_ret
     exact ⟨by rw [HE.out];rfl,Hpz.out.then_ hx.out⟩
    ·have hqz:(q1 == z1)=false:=by simp [hq]
     have HN:=hid (Hyes.out hq)
     clear Hno Hyes hq
     have hS:Hid (∀W,Pure Wd W→(W.cell? ⟨w.heap.size,0,none⟩=some (.slice (some ⟨b,off,none⟩) B.length c0)∧W.cell? ⟨b,off+(k-1)*2,none⟩=some (.int .i64 q1)∧W.cell? ⟨wr.heap.size,0,none⟩=some (.int .i64 z1)∧W.cell? ⟨wr.heap.size,1,none⟩=some (.int .i64 z2)∧Pure Wd W)):=fun W hW=>by
      have hwb:=Pure.then_ hpd hW
      have ed:=(hW.block _ (lob hbd)).trans hbd
      exact ⟨(hC.out W (hp.then_ hwb)).1,(hwb.cell hb').trans y0,cob ed 0,cob ed 1,hW⟩
     have hst:=hid (hS.out Wd.drew qv)
     have hS2:Hid (∀W:World,(W.cell? ⟨w.heap.size,0,none⟩=some (.slice (some ⟨b,off,none⟩) B.length c0)∧W.cell? ⟨b,off+(k-1)*2,none⟩=some (.int .i64 q1)∧W.cell? ⟨wr.heap.size,0,none⟩=some (.int .i64 z1)∧W.cell? ⟨wr.heap.size,1,none⟩=some (.int .i64 z2)∧Pure Wd W)→Pure Wd W):=fun W h=>h.2.2.2.2
     have Hpd:=hid hpd
     clear hp hb hb' y0 y1 hbd hpd
     generalize hj:k-1=j at *
     go_wp2_with fail
     rw [←hWd]
     clear hWd
     first
     | go_region_held3 (fun W=>W.cell? ⟨w.heap.size,0,none⟩=some (.slice (some ⟨b,off,none⟩) B.length c0)∧W.cell? ⟨b,off+j*2,none⟩=some (.int .i64 q1)∧W.cell? ⟨wr.heap.size,0,none⟩=some (.int .i64 z1)∧W.cell? ⟨wr.heap.size,1,none⟩=some (.int .i64 z2)∧Pure Wd W)
        (exact qz)
        ((go_at_call 176;(with_reducible refine (hck2.out _).mono ?_);rintro e w7 ⟨rfl,hp7⟩))
     | fail
     have hx:=hid (Hp.out.then_ (Pure.then_ Hpd.out (hS2.out w7 qa)))
     clear hp7 hst hS hS2
     go_wp2
     go_roundw
     case rel=>exact ⟨k+1,by omega,by go_num,HN.out,hx.out⟩
     case measure=>simp [RowKit.intOf];omega
   ·have hg:decide ((0:Int)<(k:Int))=false:=by simp;omega
    have HN:=hid (allB_next Hal.out (show cat0 B k=true from by unfold cat0;rw [←HD.out,decide_eq_true (show k=0 by omega)];rfl))
    generalize B.getD k (0,0)=z at *
    obtain ⟨z1,z2⟩:=z
    dsimp only at x0 x1 hbd hWd hck2
    have hS:Hid (∀W,Pure Wd W→(W.cell? ⟨wr.heap.size,0,none⟩=some (.int .i64 z1)∧W.cell? ⟨wr.heap.size,1,none⟩=some (.int .i64 z2)∧Pure Wd W)):=fun W hW=>by
     have ed:=(hW.block _ (lob hbd)).trans hbd
     exact ⟨cob ed 0,cob ed 1,hW⟩
    have hst:=hid (hS.out Wd.drew qv)
    have hS2:Hid (∀W:World,(W.cell? ⟨wr.heap.size,0,none⟩=some (.int .i64 z1)∧W.cell? ⟨wr.heap.size,1,none⟩=some (.int .i64 z2)∧Pure Wd W)→Pure Wd W):=fun W h=>h.2.2
    have Hpd:=hid hpd
    clear hp hb hbd hpd
    go_wp2_with fail
    rw [←hWd]
    clear hWd
    refine wp_region_held_drew (S:=(fun W=>W.cell? ⟨wr.heap.size,0,none⟩=some (.int .i64 z1)∧W.cell? ⟨wr.heap.size,1,none⟩=some (.int .i64 z2)∧Pure Wd W)) qk ?_ (fun hHeld=>?_)
    ·exact qz
    refine tkA 0 ?_
    refine tkC 1 fun K hK=>?_
    go_simp
    go_at_call 176;(with_reducible refine (hck2.out _).mono ?_);rintro e w7 ⟨rfl,hp7⟩;go_wp2_with fail
    refine hK.out _ _ qz fun hHeld=>?_
    clear hK K
    refine tkA 2 ?_
    refine tkA 3 ?_
    refine tkA 4 ?_
    refine tkA 5 ?_
    refine tkA 6 ?_
    refine tkU 7 ?_
    refine tkU 8 ?_
    refine tkU 9 ?_
    refine tkU 10 ?_
    refine tkU 11 ?_
    refine tkU 12 ?_
    refine tkU 13 ?_
    refine tkU 14 ?_
    refine tkU 15 ?_
    refine tkU 16 ?_
    refine tkA 17 ?_
    refine tkA 18 ?_
    refine wpAnyH_done qk ?_ _
    have hx:=hid (Hp.out.then_ (Pure.then_ Hpd.out (hS2.out w7 qa)))
    clear hp7 hst hS hS2
    go_wp2
    go_roundw
    case rel=>exact ⟨k+1,by omega,by go_num,HN.out,hx.out⟩
    case measure=>simp [RowKit.intOf];omega
  ·obtain rfl:k=B.length:=by omega
   have hlt' : ¬(B.length:Int)<(B.length:Int):=by omega
   have HalB:=hid Hal.out
   have hokB:∀d ∈ B,dok d:=fun d hd=>by
    obtain ⟨k,hk,rfl⟩:=get_mem (z:=((0,0):Dot)) hd
    have:=allB_iff.1 HalB.out k hk
    unfold cat0 at this
    rw [Bool.and_eq_true,dchk_iff] at this
    exact this.1
   have HokB:=hid hokB
   have hup:=hid (hup.out (riseb_iff.1 HrB.out) (fun d hd=>by have:=HokB.out d hd;unfold dok at this;omega))
   obtain ⟨g0,g1⟩:=hC.out wr hp
   clear hp hokB Hal
   go_wp2_with fail
   go_loopw [48] (fun i wr=>∃k:Nat,k≤C.length∧i=.int .i64 k∧allB k (cat1 B C)=true∧Pure wz wr) (fun i _=>C.length-(RowKit.intOf i).toNat)
   case atStart=>exact ⟨0,Nat.zero_le _,rfl,rfl,Hp.out⟩
   case round =>
    clear Hp g0 g1 hk hlt hlt'
    obtain ⟨k,hk,rfl,hal,hp⟩:=hrel
    have Hp:=hid hp
    have Hal:=hid hal
    clear hal
    by_cases hlt:k<C.length
    ·have hlt' : (k:Int)<(C.length:Int):=by omega
     have Hrow:=hid (HC.out wr hp)
     obtain ⟨b,off,rfl,hb,x0,x1⟩:=Dots.get Hrow.out hlt
     obtain ⟨Wd,hWd⟩:=qe (wr.alloc (.cells #[.int .i64 (C.getD k (0,0)).1,.int .i64 (C.getD k (0,0)).2] 28))
     have hpd:Pure wr Wd:=by rw [hWd];exact qp
     have hbd:Wd.heap[wr.heap.size]?=some (.cells #[.int .i64 (C.getD k (0,0)).1,.int .i64 (C.getD k (0,0)).2] 28 (0,0)):=by rw [hWd];exact ban _ _
     have hck2:=hid (fun W=>hck.out (C.getD k (0,0)) W)
     obtain ⟨D,hD⟩:=qe (dchk (C.getD k (0,0)))
     rw [←hD] at hck2
     cases D with
     | false =>
       have HE:=hid (Hbad.out (.inr (.inr (.inr (allB_false hlt (by unfold cat1;rw [←hD];rfl))))))
       clear hD
       generalize C.getD k (0,0)=z at *
       obtain ⟨z1,z2⟩:=z
       dsimp only at x0 x1 hbd hWd hck2
       have hS:Hid (∀W,Pure Wd W→(W.cell? ⟨wr.heap.size,0,none⟩=some (.int .i64 z1)∧W.cell? ⟨wr.heap.size,1,none⟩=some (.int .i64 z2)∧Pure Wd W)):=fun W hW=>by
        have ed:=(hW.block _ (lob hbd)).trans hbd
        exact ⟨cob ed 0,cob ed 1,hW⟩
       have hst:=hid (hS.out Wd.drew qv)
       have hS2:Hid (∀W:World,(W.cell? ⟨wr.heap.size,0,none⟩=some (.int .i64 z1)∧W.cell? ⟨wr.heap.size,1,none⟩=some (.int .i64 z2)∧Pure Wd W)→Pure Wd W):=fun W h=>h.2.2
       have Hpd:=hid hpd
       clear hp hb hbd hpd
       go_wp2_with fail
       rw [←hWd]
       clear hWd
       refine wp_region_held_drew (S:=(fun W=>W.cell? ⟨wr.heap.size,0,none⟩=some (.int .i64 z1)∧W.cell? ⟨wr.heap.size,1,none⟩=some (.int .i64 z2)∧Pure Wd W)) qk ?_ (fun hHeld=>?_)
       ·exact qz
       refine tkA 0 ?_
       refine tkC 1 fun K hK=>?_
       go_simp
       go_at_call 176;(with_reducible refine (hck2.out _).mono ?_);rintro e w7 ⟨rfl,hp7⟩;go_wp2_with fail
       refine hK.out _ _ qz fun hHeld=>?_
       clear hK K
       refine tkA 2 ?_
       refine tkA 3 ?_
       refine tkU 4 ?_
       refine tkU 5 ?_
       refine tkU 6 ?_
       refine tkU 7 ?_
       refine tkU 8 ?_
       refine tkU 9 ?_
       refine tkU 10 ?_
       refine tkU 11 ?_
       refine tkA 12 ?_
       refine wpAnyH_done qk ?_ _
       have hx:=hid (Hp.out.then_ (Pure.then_ Hpd.out (hS2.out w7 qa)))
       clear hp7 hst hS hS2
       go_wp2
       go_ret
       exact ⟨by rw [HE.out];rfl,Hpz.out.then_ hx.out⟩
     | true =>
     obtain ⟨n0,n1⟩:=cbase_bds HokB.out (C.getD k (0,0)).1
     have Hno:=hid (fun (e:¬cbase B (C.getD k (0,0)).1+1<(C.getD k (0,0)).2)=>Hbad.out (.inr (.inr (.inr (allB_false hlt (show cat1 B C k=false from by unfold cat1;rw [decide_eq_false e];simp))))))
     have Hyes:=hid (fun (e:cbase B (C.getD k (0,0)).1+1<(C.getD k (0,0)).2)=>allB_next Hal.out (show cat1 B C k=true from by unfold cat1;rw [←hD,decide_eq_true e];rfl))
     have hup2:=hid (fun W (hW:Pure wz W)=>hup.out W (C.getD k (0,0)).1 hW)
     clear hD
     generalize cbase B (C.getD k (0,0)).1=n at *
     generalize C.getD k (0,0)=z at *
     obtain ⟨z1,z2⟩:=z
     dsimp only at x0 x1 hbd hWd hck2 hup2 Hno Hyes
     have hwn:IntKind.i64.wrap (n+1)=n+1:=IntWalk.i64_in _ oe
     by_cases hq:n+1<z2
     ·have hnle:¬z2≤n+1:=by omega
      have HN:=hid (Hyes.out hq)
      clear Hno Hyes hq
      have hS:Hid (∀W,Pure Wd W→(W.cell? ⟨w.heap.size,0,none⟩=some (.slice a0 B.length c0)∧W.cell? ⟨w.heap.size,1,none⟩=some (.slice (some ⟨b,off,none⟩) C.length c1)∧W.cell? ⟨wr.heap.size,0,none⟩=some (.int .i64 z1)∧W.cell? ⟨wr.heap.size,1,none⟩=some (.int .i64 z2)∧Pure Wd W)):=fun W hW=>by
       have hwb:=Pure.then_ hpd hW
       have ed:=(hW.block _ (lob hbd)).trans hbd
       exact ⟨(hC.out W (hp.then_ hwb)).1,(hC.out W (hp.then_ hwb)).2,cob ed 0,cob ed 1,hW⟩
      have hst:=hid (hS.out Wd.drew qv)
      have hS2:Hid (∀W:World,(W.cell? ⟨w.heap.size,0,none⟩=some (.slice a0 B.length c0)∧W.cell? ⟨w.heap.size,1,none⟩=some (.slice (some ⟨b,off,none⟩) C.length c1)∧W.cell? ⟨wr.heap.size,0,none⟩=some (.int .i64 z1)∧W.cell? ⟨wr.heap.size,1,none⟩=some (.int .i64 z2)∧Pure Wd W)→Pure Wd W):=fun W h=>h.2.2.2.2
      have Hpd:=hid hpd
      have Hpz2:=hid (fun W (hW:Pure Wd W)=>(Hp.out.then_ hpd).then_ hW)
      clear hp hb hbd hpd
      go_wp2_with fail
      rw [←hWd]
      clear hWd
      first
      | go_region_held3 (fun W=>W.cell? ⟨w.heap.size,0,none⟩=some (.slice a0 B.length c0)∧W.cell? ⟨w.heap.size,1,none⟩=some (.slice (some ⟨b,off,none⟩) C.length c1)∧W.cell? ⟨wr.heap.size,0,none⟩=some (.int .i64 z1)∧W.cell? ⟨wr.heap.size,1,none⟩=some (.int .i64 z2)∧Pure Wd W)
         (exact qz)
         ((first|(go_at_call 176;(with_reducible refine (hck2.out _).mono ?_);rintro e w7 ⟨rfl,hp7⟩)|(go_at_call 183;(with_reducible refine (hup2.out _ (Hpz2.out _ (hS2.out _ qa))).mono ?_);rintro e w8 ⟨rfl,hp8⟩)))
      | fail
      all_goals
       have hx:=hid (Hpz2.out _ (hS2.out w8 qa))
       clear hp7 hp8 hst hS hS2
       go_wp2
       go_roundw
       (case rel=>exact ⟨k+1,by omega,by go_num,HN.out,hx.out⟩)
       (case measure=>simp [RowKit.intOf];omega)
     ·have hnle:z2≤n+1:=by omega
      have HE:=hid (Hno.out hq)
      clear Hno Hyes hq
      have hS:Hid (∀W,Pure Wd W→(W.cell? ⟨w.heap.size,0,none⟩=some (.slice a0 B.length c0)∧W.cell? ⟨w.heap.size,1,none⟩=some (.slice (some ⟨b,off,none⟩) C.length c1)∧W.cell? ⟨wr.heap.size,0,none⟩=some (.int .i64 z1)∧W.cell? ⟨wr.heap.size,1,none⟩=some (.int .i64 z2)∧Pure Wd W)):=fun W hW=>by
       have hwb:=Pure.then_ hpd hW
       have ed:=(hW.block _ (lob hbd)).trans hbd
       exact ⟨(hC.out W (hp.then_ hwb)).1,(hC.out W (hp.then_ hwb)).2,cob ed 0,cob ed 1,hW⟩
      have hst:=hid (hS.out Wd.drew qv)
      have hS2:Hid (∀W:World,(W.cell? ⟨w.heap.size,0,none⟩=some (.slice a0 B.length c0)∧W.cell? ⟨w.heap.size,1,none⟩=some (.slice (some ⟨b,off,none⟩) C.length c1)∧W.cell? ⟨wr.heap.size,0,none⟩=some (.int .i64 z1)∧W.cell? ⟨wr.heap.size,1,none⟩=some (.int .i64 z2)∧Pure Wd W)→Pure Wd W):=fun W h=>h.2.2.2.2
      have Hpd:=hid hpd
      have Hpz2:=hid (fun W (hW:Pure Wd W)=>(Hp.out.then_ hpd).then_ hW)
      clear hp hb hbd hpd
      go_wp2_with fail
      rw [←hWd]
      clear hWd
      first
      | go_region_held3 (fun W=>W.cell? ⟨w.heap.size,0,none⟩=some (.slice a0 B.length c0)∧W.cell? ⟨w.heap.size,1,none⟩=some (.slice (some ⟨b,off,none⟩) C.length c1)∧W.cell? ⟨wr.heap.size,0,none⟩=some (.int .i64 z1)∧W.cell? ⟨wr.heap.size,1,none⟩=some (.int .i64 z2)∧Pure Wd W)
         (exact qz)
         ((first|(go_at_call 176;(with_reducible refine (hck2.out _).mono ?_);rintro e w7 ⟨rfl,hp7⟩)|(go_at_call 183;(with_reducible refine (hup2.out _ (Hpz2.out _ (hS2.out _ qa))).mono ?_);rintro e w8 ⟨rfl,hp8⟩)))
      | fail
      all_goals
       have hx:=hid (Hpz2.out _ (hS2.out w8 qa))
       clear hp7 hp8 hst hS hS2
       go_wp2
       go_ret
       exact ⟨by rw [HE.out];rfl,Hpz.out.then_ hx.out⟩
    ·obtain rfl:k=C.length:=by omega
     have hlt' : ¬(C.length:Int)<(C.length:Int):=by omega
     have HE:=hid (Hgood.out HrB.out HrC.out HalB.out Hal.out)
     clear hp
     go_wp2
     go_ret
     exact ⟨by rw [HE.out];rfl,Hpz.out.then_ Hp.out⟩
end
section
set_option maxHeartbeats 4000000
set_option maxRecDepth 8000
open Go.RowKit Go.Maps Go.Shelf Go.Sort
structure RdK (T:TypeId) (b:Nat) (s:RS) (w W:World):Prop where
 r:RdAt T b s W
 k:Kept (fun k=>k=b) w W
theorem RdK.start {T:TypeId} {b:Nat} {s:RS} {w:World} (h:RdAt T b s w):RdK T b s w w:=⟨h,Kept.refl _ _⟩
theorem RdK.pure {T:TypeId} {b:Nat} {s:RS} {w W W' : World} (h:RdK T b s w W) (hp:Pure W W'):RdK T b s w W':=⟨h.r.pure hp,h.k.trans hp.kept⟩
theorem RdK.alloc {T:TypeId} {b:Nat} {s:RS} {w W:World} (h:RdK T b s w W) (o:Obj):RdK T b s w (W.alloc o):=h.pure ((Below.refl _ _).alloc (Nat.le_refl _) o)
theorem RdK.next {T:TypeId} {b:Nat} {s s' : RS} {w W W' : World} (h:RdK T b s w W) (hr:RdAt T b s' W') (hk:Kept (fun k=>k=b) W W'):RdK T b s' w W':=⟨hr,h.k.trans hk⟩
theorem RdK.set {T:TypeId} {b:Nat} {s:RS} {w W:World} (h:RdK T b s w W) {n i:Nat} (hn:w.heap.size≤n) (hb:n≠b) (v:Value):RdK T b s w (W.setCell ⟨n,i,none⟩ v) :=
 ⟨h.r.kept (S:=fun k=>k=n) (Kept.setCell (S:=fun k=>k=n) (Kept.refl _ _) (p:=⟨n,i,none⟩) (fun _=>rfl) v) (fun e=>hb e.symm),h.k.setCell (p:=⟨n,i,none⟩) (fun h=>absurd h (by show ¬n<_;omega)) v⟩
theorem block_kept {b n:Nat} {o:Obj} {W W' : World} (e:W.heap[n]?=some o) (hk:Kept (fun k=>k=b) W W') (hn:n≠b):W'.heap[n]?=some o:=(hk.block n (lob e) hn).trans e
theorem dtorn_any (b:Nat) (s:RS) (w:World) (h:RdAt 117 b s w) :
 Calls Tryz.prog 177 #[.pointer (some ⟨b,0,none⟩)] w (RdP 117 b (.tuple #[]) none w):=by
 have hi:=hid (mintr_any b s (-1) w h qd qd)
 rw [rdInt_neg (-1) qd] at hi
 unfold RdP at hi
 clear h
 go_enter Tryz.func177,Tryz.ntmps177
 go_wp2_with fail
 refine hi.out.mono ?_
 rintro e w1 ⟨rfl,hr1,hk1⟩
 have H1:=hid hr1
 have K1:=hid hk1
 clear hr1 hk1
 go_wp2
 go_end0
 exact ⟨rfl,H1.out,K1.out⟩
theorem dread_any (b:Nat) (s:RS) (w:World) (h:RdAt 117 b s w) :
 Calls Tryz.prog 139 #[.pointer (some ⟨b,0,none⟩)] w (RdP 117 b (dv (rdDot s).1) (rdDot s).2 w):=by
 have hb:=h.lt
 have Hb:=hid hb
 have hint:=hid (fun s W (hW:RdAt 117 b s W)=>mintr_any b s 1099511627776 W hW qd qd)
 have hfine:=hid (fun s W (hW:RdAt 117 b s W)=>fine_any b s W hW)
 have htorn:=hid (fun s W (hW:RdAt 117 b s W)=>dtorn_any b s W hW)
 unfold RdP at hint htorn ⊢
 have hd:rdDot s=match rdInt 1099511627776 (rdInt 1099511627776 s).2 with
  | (_,none)=>((0,0),none)
  | (y,some r)=>if dchk ((rdInt 1099511627776 s).1,y) then (((rdInt 1099511627776 s).1,y),some r) else ((0,0),none):=rfl
 have hi1:=hid (hint.out s)
 have hi2:=hid (hint.out (rdInt 1099511627776 s).2)
 generalize rdDot s=R at *
 generalize rdInt 1099511627776 (rdInt 1099511627776 s).2=N2 at *
 generalize rdInt 1099511627776 s=N1 at *
 obtain ⟨x,s1⟩:=N1
 obtain ⟨y,s2⟩:=N2
 dsimp only at hi1 hi2 hd
 have hchk:=hid (chk_any (x,y))
 unfold dv at hchk ⊢
 dsimp only at hchk ⊢
 have Hd:=hid hd
 clear hd hint
 obtain ⟨wz,hwz⟩:=qe (w.alloc (.cells #[.int .i64 0,.int .i64 0] 28))
 have Hz:=qh (RdK 117 b s w wz) (by rw [hwz];exact (RdK.start h).alloc _)
 have Bz:=qh (wz.heap[w.heap.size]?=some (.cells #[.int .i64 0,.int .i64 0] 28 (0,0))) (by rw [hwz];exact ban _ _)
 clear h
 go_enter Tryz.func139,Tryz.ntmps139
 go_wp2_with fail
 rw [←hwz]
 clear hwz
 refine (hi1.out wz Hz.out.r).mono ?_
 rintro e w1 ⟨rfl,hr1,hk1⟩
 have Z1:=hid (block_kept Bz.out hk1 oe)
 have hlt1:=qh (w.heap.size<w1.heap.size) (lob Z1.out)
 obtain ⟨v1,hv1⟩:=qe (w1.alloc (.cells #[.int .i64 x,.int .i64 0] 28))
 have H1:=qh (RdK 117 b s1 w v1) (by rw [hv1];exact (Hz.out.next hr1 hk1).alloc _)
 have Y1:=qh (v1.heap[w1.heap.size]?=some (.cells #[.int .i64 x,.int .i64 0] 28 (0,0))) (by rw [hv1];exact ban _ _)
 have Q1:=qh (v1.heap[w.heap.size]?=some (.cells #[.int .i64 0,.int .i64 0] 28 (0,0))) (by rw [hv1];exact bao Z1.out _)
 clear hr1 hk1 Z1 Bz Hz hi1
 go_wp2_with fail
 rw [←hv1]
 clear hv1
 generalize w1.heap.size=n at *
 refine (hi2.out v1 H1.out.r).mono ?_
 rintro e w2 ⟨rfl,hr2,hk2⟩
 have Y2:=block_kept Y1.out hk2 (by have:=hlt1.out;omega)
 have Q2:=block_kept Q1.out hk2 oe
 have H2:=hid (H1.out.next hr2 hk2)
 have c1:=cob Y2 1
 have f1:=fob Y2 1
 simp at c1
 obtain ⟨v2,hv2⟩:=qe (w2.setCell ⟨n,1,none⟩ (.int .i64 y))
 have Y3:=qh (v2.heap[n]?=some (.cells #[.int .i64 x,.int .i64 y] 28 (0,0))) (by rw [hv2];have:=bsc Y2 1 (.int .i64 y);simpa using this)
 have Q3:=qh (v2.heap[w.heap.size]?=some (.cells #[.int .i64 0,.int .i64 0] 28 (0,0))) (by rw [hv2];exact bso Q2 _ (by show ¬n=_;have:=hlt1.out;omega) _)
 have H3:=qh (RdK 117 b s2 w v2) (by rw [hv2];exact H2.out.set (by have:=hlt1.out;omega) (by have:=hlt1.out;omega) _)
 clear hr2 hk2 Y1 Q1 H1 H2 hi2 Y2 Q2
 go_wp2_with fail
 rw [←hv2]
 clear hv2 c1 f1
 refine (hfine.out s2 v2 H3.out.r).mono ?_
 rintro e w3 ⟨rfl,hp3⟩
 have H4:=hid (H3.out.pure hp3)
 have Y4:=(hp3.block _ (lob Y3.out)).trans Y3.out
 have Q4:=(hp3.block _ (lob Q3.out)).trans Q3.out
 have HY4:=hid Y4
 have HQ4:=hid Q4
 have y0:=cob Y4 0
 have y1:=cob Y4 1
 have hnb:=qh (n≠b∧w.heap.size<n) (by have:=hlt1.out;omega)
 simp at y0 y1
 clear hp3 Y4 Q4 H3 Y3 Q3
 have fin:=hid (fun (W:World) (hW:RdK 117 b none w W) (hQ:W.heap[w.heap.size]?=some (.cells #[.int .i64 0,.int .i64 0] 28 (0,0)))=>(And.intro (cob hQ 0) (And.intro (cob hQ 1) (And.intro (fob hQ 0) (fob hQ 1)))))
 cases s2 with
 | none =>
   have HR:=qh (R=((0,0),none)) (Hd.out)
   go_wp2_with fail
   refine (htorn.out none w3 H4.out.r).mono ?_
   rintro e w4 ⟨rfl,hr4,hk4⟩
   have H5:=hid (H4.out.next hr4 hk4)
   have Q5:=block_kept HQ4.out hk4 oe
   obtain ⟨a0,a1,a2,a3⟩:=fin.out w4 H5.out Q5
   simp at a0 a1
   have Hset:=qh (RdK 117 b none w ((w4.setCell ⟨w.heap.size,0,none⟩ (.int .i64 0)).setCell ⟨w.heap.size,1,none⟩ (.int .i64 0))) ((H5.out.set (Nat.le_refl _) oe _).set (Nat.le_refl _) oe _)
   have Bset:=hid (bsc (bsc Q5 0 (.int .i64 0)) 1 (.int .i64 0))
   clear hr4 hk4 Q5
   go_wp2
   exact bodyPost_ret (v:=.agg #[.int .i64 0,.int .i64 0]) (by simp [results,Tryz.results139,go_sem,cob Bset.out 0,cob Bset.out 1]) rfl ⟨by rw [HR.out],by rw [HR.out];exact Hset.out.r,Hset.out.k⟩
 | some r =>
   have Hd2:=qh (R=if dchk (x,y) then ((x,y),some r) else ((0,0),none)) (Hd.out)
   go_wp2_with fail
   refine (hchk.out w3).mono ?_
   rintro e w4 ⟨rfl,hp4⟩
   have H5:=hid (H4.out.pure hp4)
   have Y5:=(hp4.block _ (lob HY4.out)).trans HY4.out
   have Q5:=(hp4.block _ (lob HQ4.out)).trans HQ4.out
   cases hc:dchk (x,y) with
   | false =>
     have HR:=qh (R=((0,0),none)) (by rw [Hd2.out,hc];rfl)
     have HQ5:=hid Q5
     clear hp4 y0 y1 hc Y5 Q5
     go_wp2_with fail
     refine (htorn.out _ w4 H5.out.r).mono ?_
     rintro e w5 ⟨rfl,hr5,hk5⟩
     have H6:=hid (H5.out.next hr5 hk5)
     have Q6:=block_kept HQ5.out hk5 oe
     obtain ⟨a0,a1,a2,a3⟩:=fin.out w5 H6.out Q6
     simp at a0 a1
     have Hset:=qh (RdK 117 b none w ((w5.setCell ⟨w.heap.size,0,none⟩ (.int .i64 0)).setCell ⟨w.heap.size,1,none⟩ (.int .i64 0))) ((H6.out.set (Nat.le_refl _) oe _).set (Nat.le_refl _) oe _)
     have Bset:=hid (bsc (bsc Q6 0 (.int .i64 0)) 1 (.int .i64 0))
     clear hr5 hk5 Q6
     go_wp2
     exact bodyPost_ret (v:=.agg #[.int .i64 0,.int .i64 0]) (by simp [results,Tryz.results139,go_sem,cob Bset.out 0,cob Bset.out 1]) rfl ⟨by rw [HR.out],by rw [HR.out];exact Hset.out.r,Hset.out.k⟩
   | true =>
     have HR:=qh (R=((x,y),some r)) (by rw [Hd2.out,hc];rfl)
     have a0:=cob Q5 0
     have a1:=cob Q5 1
     have a2:=fob Q5 0
     have a3:=fob Q5 1
     have z0:=cob Y5 0
     have z1:=cob Y5 1
     simp at a0 a1 z0 z1
     have Hset:=qh (RdK 117 b (some r) w ((w4.setCell ⟨w.heap.size,0,none⟩ (.int .i64 x)).setCell ⟨w.heap.size,1,none⟩ (.int .i64 y))) ((H5.out.set (Nat.le_refl _) oe _).set (Nat.le_refl _) oe _)
     have Bset:=hid (bsc (bsc Q5 0 (.int .i64 x)) 1 (.int .i64 y))
     clear hp4 y0 y1 hc Y5 Q5
     go_wp2
     exact bodyPost_ret (v:=.agg #[.int .i64 x,.int .i64 y]) (by simp [results,Tryz.results139,go_sem,cob Bset.out 0,cob Bset.out 1]) rfl ⟨by rw [HR.out],by rw [HR.out];exact Hset.out.r,Hset.out.k⟩
def RdRowP (T:TypeId) (b:Nat) (l:List Dot) (s:RS) (w:World) (e:Ending) (w' : World):Prop:=∃v,e=.returned v∧Dots w' v l∧(∀k,v.rb=some k→w.heap.size≤k)∧RdAt T b s w'∧Kept (fun k=>k=b) w w'
theorem own_kept {S:Nat→Prop} {w w' : World} {base e size:Nat} {v:Value} {n:Nat} {xs:List Value} (h:w.ownsRow base e size v n xs) (hk:Kept S w w') (hS:∀k,v.ownBlock=some k→¬S k):w'.ownsRow base e size v n xs:=by
 obtain ⟨hl,h|⟨g,cap,cur,rfl,hb,hg,h1,h2,h3,h4⟩⟩:=h
 ·exact ⟨hl,.inl h⟩
 ·exact ⟨hl,.inr ⟨g,cap,cur,rfl,hb,(hk.block g (lob hg) (hS g rfl)).trans hg,h1,h2,h3,h4⟩⟩
theorem rdInt_zero (most:Int) (s:RS) (h:(rdInt most s).2=none):(rdInt most s).1=0:=by
 unfold rdInt at h ⊢
 split
 ·rfl
 ·rename_i n r e
  rw [e] at h
  dsimp only at h
  split
  ·rfl
  ·rename_i hn;rw [if_neg hn] at h;cases h
theorem RdK.grown {T:TypeId} {b:Nat} {s:RS} {w W W' : World} {row:Option Nat} (h:RdK T b s w W) (hg:W.grownBy W' row) (hr:∀k,row=some k→w.heap.size≤k) (hb:b<w.heap.size):RdK T b s w W' :=
 ⟨h.r.kept (S:=fun k=>row=some k) (Kept.grown (S:=fun k=>row=some k) (Kept.refl _ _) hg (fun k hk _=>hk)) (fun e=>by have:=hr b e;omega),h.k.grown hg (fun k hk hl=>by have:=hr k hk;omega)⟩
theorem RdK.lt {T:TypeId} {b:Nat} {s:RS} {w W:World} (h:RdK T b s w W):w.heap.size≤W.heap.size:=h.k.size
structure RwI (T:TypeId) (b:Nat) (n:Nat) (total:List Dot × RS) (w:World) (k:Nat) (v:Value) (acc:List Dot) (s:List UInt8) (W:World):Prop where
 kn:k≤n
 len:acc.length=k
 r:RdK T b (some s) w W
 own:W.ownsRow w.heap.size 28 2 v acc.length (dvs acc)
 t:rdItems rdDot (n-k) acc (some s)=total
theorem dreadrow_any (b:Nat) (s:RS) (most:Int) (w:World) (h:RdAt 117 b s w) (hm0:0≤most) (hm:most≤100000) :
 Calls Tryz.prog 174 #[.pointer (some ⟨b,0,none⟩),.int .i64 most] w (RdRowP 117 b (rdRow most s).1 (rdRow most s).2 w):=by
 have Hb:=hid h.lt
 have hi1:=hid (mintr_any b s most w h oe oe)
 have hbd:=rdInt_bd most s
 have hz:=rdInt_zero most s
 have Hr:Hid (rdRow most s=match rdItems rdDot (rdInt most s).1.toNat [] (rdInt most s).2 with
  | (_,none)=>([],none)
  | (l,some r)=>if riseb l then (l,some r) else ([],none)):=(show _=_ from rfl)
 have hfine:=hid (fun s W (hW:RdAt 117 b s W)=>fine_any b s W hW)
 have hread:=hid (fun s W (hW:RdAt 117 b s W)=>dread_any b s W hW)
 have htorn:=hid (fun s W (hW:RdAt 117 b s W)=>dtorn_any b s W hW)
 have hrises:=hid (fun v l W (hW:Dots W v l) hl=>risesb_any v l W hW hl)
 have Hw:=hid (RdK.start h)
 unfold RdP at hi1 hread htorn
 unfold dv at hread
 generalize rdRow most s=R at *
 generalize rdInt most s=N1 at *
 obtain ⟨x,s1⟩:=N1
 dsimp only at hi1 hbd Hr hz
 obtain ⟨n,rfl⟩ : ∃n:Nat,x=n:=⟨x.toNat,by omega⟩
 have Hr2:=hid Hr.out
 rw [Int.toNat_natCast] at Hr2
 obtain ⟨total,htot⟩:=qe (rdItems rdDot n [] s1)
 rw [←htot] at Hr2
 have hbn:=hbd.2 hm0
 clear h hbd Hr
 cases s1 with
 | none =>
   have hn0:n=0:=by have:=hz rfl;omega
   subst hn0
   have HR:=qh (R=([],none)) (by rw [Hr2.out,htot];rfl)
   clear htot hz Hr2
   go_enter Tryz.func174,Tryz.ntmps174
   go_wp2_with fail
   refine hi1.out.mono ?_
   rintro e w1 ⟨rfl,hr1,hk1⟩
   have H1:=hid (Hw.out.next hr1 hk1)
   clear hr1 hk1
   go_wp2_with fail
   go_loopw [9] (fun i wr=>i=.int .i64 0∧wr=w1) (fun _ _=>0)
   case atStart=>exact ⟨rfl,rfl⟩
   case round =>
    obtain ⟨rfl,rfl⟩:=hrel
    go_wp2_with fail
    refine (hfine.out none _ H1.out.r).mono ?_
    rintro e w2 ⟨rfl,hp2⟩
    have H2:=hid (H1.out.pure hp2)
    clear hp2
    go_wp2_with fail
    refine (htorn.out none w2 H2.out.r).mono ?_
    rintro e w3 ⟨rfl,hr3,hk3⟩
    have H3:=hid (H2.out.next hr3 hk3)
    clear hr3 hk3
    go_wp2
    go_ret
    exact ⟨_,rfl,by rw [HR.out];exact Row.nil _ _,fun k hk=>by simp [Value.rb] at hk,by rw [HR.out];exact H3.out.r,H3.out.k⟩
 | some r1 =>
   have Htot:=hid htot
   clear htot hz
   go_enter Tryz.func174,Tryz.ntmps174
   go_wp2_with fail
   refine hi1.out.mono ?_
   rintro e w1 ⟨rfl,hr1,hk1⟩
   have H1:=hid (Hw.out.next hr1 hk1)
   clear hr1 hk1
   go_wp2_with fail
   go_loopw [5,9] (fun v i wr=>∃(k:Nat) (acc:List Dot) (s:List UInt8),i=.int .i64 k∧RwI 117 b n total w k v acc s wr) (fun _ i _=>n-(RowKit.intOf i).toNat)
   case atStart=>exact ⟨0,[],r1,rfl,Nat.zero_le _,rfl,H1.out,World.ownsRow_nil _ _ _ _,Htot.out.symm⟩
   case round =>
    obtain ⟨k,acc,s,rfl,hI⟩:=hrel
    have HI:=hid hI
    have hkn:=hI.kn
    have Hlen:=hid hI.len
    have hl100:acc.length≤100000:=by have:=hI.len;omega
    obtain ⟨a,c,rfl⟩:=osd hI.own
    clear hI
    by_cases hlt:k<n
    ·have hlt' : (k:Int)<(n:Int):=by omega
     have hrd:=hid (hread.out (some s))
     have Hstep:=qh ((∀x,rdDot (some s)=(x,none)→total=([],none))∧(∀x r,rdDot (some s)=(x,some r)→rdItems rdDot (n-(k+1)) (acc++[x]) (some r)=total)) (by
      have e:n-k=(n-(k+1))+1:=by omega
      have ht:=HI.out.t
      rw [e] at ht
      exact ⟨fun x hx=>by rw [←ht,rdItems_torn rdDot _ _ _ x hx],fun x r hx=>by rw [←ht,rdItems_fine rdDot _ _ _ x r hx]⟩)
     generalize rdDot (some s)=D at *
     obtain ⟨⟨d1,d2⟩,s2⟩:=D
     dsimp only at hrd
     go_wp2_with fail
     refine (hrd.out wr HI.out.r.r).mono ?_
     rintro e w2 ⟨rfl,hr2,hk2⟩
     have H2:=hid (HI.out.r.next hr2 hk2)
     have Hown:=hid (own_kept HI.out.own hk2 (fun j hj e=>by have:=(HI.out.own.lt j hj).1;have:=Hb.out;omega))
     have b4:w.heap.size≤(w2.alloc (.cells #[.int .i64 d1,.int .i64 d2] 28)).heap.size:=by have:=H2.out.lt;simp;omega
     clear hr2 hk2
     go_wp2_with (at_builtin;refine wlad rfl _ _ rfl w.heap.size _ acc acc.length rfl (Hown.out.alloc _) _ [(d1,d2)] 1 rfl (dots_lit w2 d1 d2) oe b4 ?_)
     intro v3 w3 hown3 hg3
     have H3:=hid (RdK.grown (H2.out.alloc _) hg3 (fun j hj=>(Hown.out.lt j hj).1) Hb.out)
     have Hown3:=qh (w3.ownsRow w.heap.size 28 2 v3 (acc++[(d1,d2)]).length (dvs (acc++[(d1,d2)]))) (by rw [List.length_append];exact hown3)
     obtain ⟨a3,c3,rfl⟩:=osd hown3
     clear hown3 hg3 b4
     go_wp2_with fail
     refine (hfine.out s2 w3 H3.out.r).mono ?_
     rintro e w4 ⟨rfl,hp4⟩
     have H4:=hid (H3.out.pure hp4)
     have Hown4:=hid (own_pure Hown3.out hp4)
     clear hp4
     cases s2 with
     | none =>
       have HR:=qh (R=([],none)) (by rw [Hr2.out,Hstep.out.1 _ rfl])
       go_wp2
       go_ret
       exact ⟨_,rfl,by rw [HR.out];exact Row.nil _ _,fun k hk=>by simp [Value.rb] at hk,by rw [HR.out];exact H4.out.r,H4.out.k⟩
     | some r2 =>
       have HN:=hid (Hstep.out.2 _ _ rfl)
       go_wp2
       go_roundw
       case rel=>exact ⟨k+1,acc++[(d1,d2)],r2,by go_num,by omega,by simp [Hlen.out],H4.out,by simpa using Hown4.out,HN.out⟩
       case measure=>simp [RowKit.intOf];omega
    ·obtain rfl:k=n:=by omega
     have hlt' : ¬(k:Int)<(k:Int):=by omega
     have Ht:=qh (total=(acc,some s)) (by have:=HI.out.t;rw [Nat.sub_self] at this;exact this.symm)
     have HRr:=qh (R=if riseb acc then (acc,some s) else ([],none)) (by rw [Hr2.out,Ht.out])
     have H1:=hid HI.out.r
     have hrs:=hid (fun W (hW:Dots W (.slice a acc.length c) acc)=>hrises.out _ acc W hW oe)
     have HD:=hid (fun W (hW:Pure wr W)=>(show Dots W (.slice a acc.length c) acc from Row.pure (Row.of_own HI.out.own) hW))
     have Hfr:=hid (fun j (hj:(Value.slice a acc.length c).rb=some j)=>(HI.out.own.lt j (rb_own hj)).1)
     generalize riseb acc=B at *
     go_wp2_with fail
     refine (hfine.out (some s) wr H1.out.r).mono ?_
     rintro e w2 ⟨rfl,hp2⟩
     have H2:=hid (H1.out.pure hp2)
     have Hp2:=hid hp2
     clear hp2
     go_wp2_with fail
     refine (hrs.out w2 (HD.out w2 Hp2.out)).mono ?_
     rintro e w3 ⟨rfl,hp3⟩
     have H3:=hid (H2.out.pure hp3)
     have Hp3:=hid (Hp2.out.then_ hp3)
     clear hp3
     cases B with
     | false =>
       have HR:=qh (R=([],none)) (HRr.out)
       go_wp2_with fail
       refine (htorn.out (some s) w3 H3.out.r).mono ?_
       rintro e w4 ⟨rfl,hr4,hk4⟩
       have H4:=hid (H3.out.next hr4 hk4)
       clear hr4 hk4
       go_wp2
       go_ret
       exact ⟨_,rfl,by rw [HR.out];exact Row.nil _ _,fun k hk=>by simp [Value.rb] at hk,by rw [HR.out];exact H4.out.r,H4.out.k⟩
     | true =>
       have HR:=qh (R=(acc,some s)) (HRr.out)
       go_wp2
       go_ret
       exact ⟨_,rfl,by rw [HR.out];exact HD.out w3 Hp3.out,Hfr.out,by rw [HR.out];exact H3.out.r,H3.out.k⟩
end
section
open Go.RowKit Go.Maps
def RdRowG {α:Type} (f:α→List Value) (sz:Nat) (T:TypeId) (b:Nat) (l:List α) (s:RS) (w:World) (e:Ending) (w' : World):Prop:=∃v,e=.returned v∧GRow f sz w' v l∧(∀k,v.rb=some k→w.heap.size≤k)∧RdAt T b s w'∧Kept (fun k=>k=b) w w'
def RdIn {α:Type} (f:RS→α × RS) (total:List α × RS) (m:Nat) (acc:List α) (s:RS):Prop:=match s with
 | some t=>rdItems f m acc (some t)=total
 | none=>total=([],none)
theorem RdIn.step {α:Type} {f:RS→α × RS} {total:List α × RS} {m:Nat} {acc:List α} {s:RS} (hf:(f none).2=none) (h:RdIn f total (m+1) acc s):RdIn f total m (acc++[(f s).1]) (f s).2:=by
 cases s with
 | none=>rw [hf];exact h
 | some t =>
   have h' : rdItems f (m+1) acc (some t)=total:=h
   cases e:(f (some t)).2 with
   | none =>
     have:f (some t)=((f (some t)).1,none):=Prod.ext rfl e
     rw [rdItems_torn f m acc (some t) _ this] at h'
     exact h'.symm
   | some r =>
     have:f (some t)=((f (some t)).1,some r):=Prod.ext rfl e
     rw [rdItems_fine f m acc (some t) _ r this] at h'
     exact h'
theorem RdIn.start {α:Type} (f:RS→α × RS) (m:Nat) (s:RS) (hz:s=none→m=0):RdIn f (rdItems f m [] s) m [] s:=by
 cases s with
 | none=>rw [hz rfl];rfl
 | some t=>rfl
theorem RdIn.fin {α:Type} {f:RS→α × RS} {total:List α × RS} {acc:List α} {s:RS} (h:RdIn f total 0 acc s):total=(match s with|some t=>(acc,some t)|none=>([],none)):=by
 cases s with
 | none=>exact h
 | some t=>exact h.symm
structure RdOwn {α:Type} (f:α→List Value) (sz:Nat) (E:TypeId) (T:TypeId) (b:Nat) (v:Value) (acc:List α) (s:RS) (w W:World):Prop where
 r:RdK T b s w W
 own:W.ownsRow w.heap.size E sz v acc.length (gvs f acc)
 wb:b<w.heap.size
section
variable {α:Type} {f:α→List Value} {sz:Nat} {E T:TypeId} {b:Nat} {v:Value} {acc:List α} {s s' : RS} {w W W' : World}
theorem RdOwn.next (h:RdOwn f sz E T b v acc s w W) (hr:RdAt T b s' W') (hk:Kept (fun k=>k=b) W W'):RdOwn f sz E T b v acc s' w W' :=
 ⟨h.r.next hr hk,own_kept h.own hk (fun j hj e=>by have:=(h.own.lt j hj).1;have:=h.wb;omega),h.wb⟩
theorem RdOwn.pure (h:RdOwn f sz E T b v acc s w W) (hp:Pure W W'):RdOwn f sz E T b v acc s w W':=h.next (h.r.r.pure hp) hp.kept
theorem RdOwn.alloc (h:RdOwn f sz E T b v acc s w W) (o:Obj):RdOwn f sz E T b v acc s w (W.alloc o):=h.pure ((Below.refl _ _).alloc (Nat.le_refl _) o)
theorem RdOwn.set (h:RdOwn f sz E T b v acc s w W) {n i:Nat} (hn:w.heap.size≤n) (ho:∀k,v.ownBlock=some k→k≠n) (u:Value):RdOwn f sz E T b v acc s w (W.setCell ⟨n,i,none⟩ u) :=
 ⟨h.r.set hn (by have:=h.wb;omega) u,own_kept h.own (Kept.setCell (S:=fun k=>k=n) (Kept.refl _ _) (p:=⟨n,i,none⟩) (fun _=>rfl) u) ho,h.wb⟩
theorem RdOwn.grow (h:RdOwn f sz E T b v acc s w W) {v' : Value} {acc' : List α} (hg:W.grownBy W' v.ownBlock) (hv:W'.ownsRow w.heap.size E sz v' acc'.length (gvs f acc')):RdOwn f sz E T b v' acc' s w W':=by
 have hb:=h.wb
 have hk:Kept (fun k=>w.heap.size≤k) W W':=Kept.grown (S:=fun k=>w.heap.size≤k) (Kept.refl _ _) hg (fun k hk _=>(h.own.lt k hk).1)
 exact ⟨⟨h.r.r.kept hk oe,⟨hk.os.trans h.r.k.os,hk.tape.trans h.r.k.tape,hk.output.trans h.r.k.output,Nat.le_trans h.r.k.size hk.size,fun k hk' he=>(hk.block k (Nat.lt_of_lt_of_le hk' h.r.k.size) oe).trans (h.r.k.block k hk' he)⟩⟩,hv,hb⟩
theorem RdOwn.row (h:RdOwn f sz E T b v acc s w W):GRow f sz W v acc:=Row.of_own h.own
theorem RdOwn.fr (h:RdOwn f sz E T b v acc s w W):∀k,v.rb=some k→w.heap.size≤k:=fun k hk=>(h.own.lt k (rb_own hk)).1
theorem RdOwn.done (h:RdOwn f sz E T b v acc s w W) {l:List α} {s1:RS} (el:acc=l) (es:s=s1):RdRowG f sz T b l s1 w (.returned v) W:=by
 subst el;subst es
 exact ⟨v,rfl,h.row,h.fr,h.r.r,h.r.k⟩
theorem RdOwn.none_ (h:RdOwn f sz E T b v acc none w W) {l:List α} {s1:RS} (el:l=[]) (es:s1=none):RdRowG f sz T b l s1 w (.returned (.slice none 0 0)) W:=by
 subst el;subst es
 exact ⟨_,rfl,Row.nil _ _,fun k hk=>by simp [Value.rb] at hk,h.r.r,h.r.k⟩
end
end
end Go.Proofs.YtdlpnhfgjficgaaGreat
