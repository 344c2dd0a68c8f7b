import Derived.Test.YtdlpnhfgjficgaaGreatMSd
set_option maxHeartbeats 4000000
set_option maxRecDepth 8000
namespace Go.Proofs.YtdlpnhfgjficgaaGreat
open Go.RowKit Go.Maps Go.Shelf Go.Sort
theorem mmay_parts (x y:Int) (q b:List UInt8) (c:Int):mmay ((x,y),q,b,c)=(dchk (x,y) && (decide (q≠[]) && decide (q.length≤40) && decide (b.length≤1000) && decide (0≤c) && decide (c≤1048576))):=by
 unfold mmay
 have:decide (1≤q.length)=decide (q≠[]):=by
  cases q <;> simp
 dsimp only
 rw [this]
 simp only [Bool.and_assoc]
theorem bs_eqnil (q:List UInt8):((bs q).toList=([]:List UInt8))=(q=[]):=by rw [bs_list3]
theorem mmayg_any (m:Msg) (w:World):Calls Tryz.prog 178 #[mv m] w fun e w'=>e=.returned (.bool (mmay m))∧Pure w w':=by
 obtain ⟨⟨x,y⟩,q,b,c⟩:=m
 obtain ⟨wz,hwz⟩:=qe (w.alloc (.cells #[.int .i64 x,.int .i64 y,.string (bs q),.string (bs b),.int .i64 c] 43))
 have Hp:=qh (Pure w wz) (by rw [hwz];exact qp)
 have Hm:=qh (MX w.heap.size ((x,y),q,b,c) wz) (by rw [hwz];exact MX.made w ((x,y),q,b,c))
 have hc:=hid (chk_any (x,y) wz)
 have HM:=hid (mmay_parts x y q b c)
 have hqs:=bs_size q
 have hbs:=bs_size b
 unfold dv at hc
 dsimp only at hc
 unfold mv
 dsimp only
 generalize mmay ((x,y),q,b,c)=V at *
 generalize dchk (x,y)=D at *
 obtain ⟨x0,x1,x2,x3,x4⟩:=Hm.out.cells
 rw [hwz] at x0 x1 x2 x3 x4
 cases D with
 | false =>
   have HV:=qh (V=false) (by rw [HM.out];rfl)
   go_enter Tryz.func178,Tryz.ntmps178
   go_wp2_with fail
   rw [←hwz]
   clear hwz x0 x1 x2 x3 x4
   refine hc.out.mono ?_
   rintro e w1 ⟨rfl,hp1⟩
   have Hp1:=hid (Hp.out.then_ hp1)
   clear hp1
   go_wp2
   go_ret
   exact ⟨by rw [HV.out];rfl,Hp1.out⟩
 | true =>
   have HM2:=qh (V=(decide (q≠[]) && decide (q.length≤40) && decide (b.length≤1000) && decide (0≤c) && decide (c≤1048576))) (by rw [HM.out];rfl)
   have hen:=bs_eqnil q
   have key:(q=[]∧V=false)∨(q≠[]∧¬(q.length:Int)≤40∧V=false)∨(q≠[]∧(q.length:Int)≤40∧¬(b.length:Int)≤1000∧V=false)∨(q≠[]∧(q.length:Int)≤40∧(b.length:Int)≤1000∧¬(0:Int)≤c∧V=false)∨(q≠[]∧(q.length:Int)≤40∧(b.length:Int)≤1000∧(0:Int)≤c∧¬c≤1048576∧V=false)∨(q≠[]∧(q.length:Int)≤40∧(b.length:Int)≤1000∧(0:Int)≤c∧c≤1048576∧V=true):=by
    rw [HM2.out]
    by_cases h1:q=[]
    ·exact .inl ⟨h1,by simp [h1]⟩
    by_cases h2:(q.length:Int)≤40
    ·by_cases h3:(b.length:Int)≤1000
     ·by_cases h4:0≤c
      ·by_cases h5:c≤1048576
       ·exact .inr (.inr (.inr (.inr (.inr ⟨h1,h2,h3,h4,h5,by simp [h1,h4,h5];omega⟩))))
       ·exact .inr (.inr (.inr (.inr (.inl ⟨h1,h2,h3,h4,h5,by simp [h5]⟩))))
      ·exact .inr (.inr (.inr (.inl ⟨h1,h2,h3,h4,by simp [h4]⟩)))
     ·exact .inr (.inr (.inl ⟨h1,h2,h3,by simp [show ¬b.length≤1000 by omega]⟩))
    ·exact .inr (.inl ⟨h1,h2,by simp [show ¬q.length≤40 by omega]⟩)
   rcases key with ⟨h1,hV⟩|⟨h1,h2,hV⟩|⟨h1,h2,h3,hV⟩|⟨h1,h2,h3,h4,hV⟩|⟨h1,h2,h3,h4,h5,hV⟩|⟨h1,h2,h3,h4,h5,hV⟩
   all_goals
    have HV:=hid hV
    have hemp:(bs q).toList.isEmpty=q.isEmpty:=by rw [bs_list3]
    first
     | (subst h1;simp only [List.isEmpty_nil] at hemp)
     | (have hq:q.isEmpty=false:=by (cases q;exact absurd rfl h1;rfl)
        rw [hq] at hemp)
    clear hV
    go_enter Tryz.func178,Tryz.ntmps178
    go_wp2_with fail
    rw [←hwz]
    clear hwz x0 x1 x2 x3 x4
    refine hc.out.mono ?_
    rintro e w1 ⟨rfl,hp1⟩
    obtain ⟨x0,x1,x2,x3,x4⟩:=(Hm.out.pure hp1).cells
    have Hp1:=hid (Hp.out.then_ hp1)
    clear hp1
    go_wp2
    go_ret
    exact ⟨by rw [HV.out];first|rfl|simp [h5],Hp1.out⟩
theorem bcheck_any5 (v0 v1 v2:Value) (g:Bag) (w:World) (hr:BR3 v0 v1 v2 g w) (hl0:g.1.length≤100000) (hl1:g.2.1.length≤100000) (hl2:g.2.2.length≤100000) :
 Calls Tryz.prog 141 #[.agg #[v0,v1,v2]] w fun e w'=>e=.returned (.int .i64 (errOf (bchk g)))∧Pure w w':=by
 obtain ⟨M,B,C⟩:=g
 obtain ⟨h0,h1,h2⟩:=hr
 dsimp only at h0 h1 h2 hl0 hl1 hl2
 obtain ⟨a0,c0,rfl⟩:=h0.shape
 obtain ⟨wz,hwz⟩:=qe (w.alloc (.cells #[.slice a0 M.length c0,v1,v2] 34))
 have Hpz:=qh (Pure w wz) (by rw [hwz];exact qp)
 have hbk:Hid (wz.heap[w.heap.size]?=some (.cells #[.slice a0 M.length c0,v1,v2] 34 (0,0))):=by
  show wz.heap[w.heap.size]?=_
  rw [hwz]
  exact ban _ _
 have hC:Hid (∀W,Pure wz W→(W.cell? ⟨w.heap.size,0,none⟩=some (.slice a0 M.length c0)∧W.cell? ⟨w.heap.size,1,none⟩=some v1∧W.cell? ⟨w.heap.size,2,none⟩=some v2)):=fun W hW=>by
  have e0:=(hW.block _ (lob hbk.out)).trans hbk.out
  exact ⟨cob e0 0,cob e0 1,cob e0 2⟩
 have HM:=hid (fun W (hW:Pure wz W)=>(Row.pure h0 (Hpz.out.then_ hW):Msgs W (.slice a0 M.length c0) M))
 have HX:=hid (fun W (hW:Pure wz W)=>(show Dots W v1 B∧Dots W v2 C from ⟨Row.pure h1 (Hpz.out.then_ hW),Row.pure h2 (Hpz.out.then_ hW)⟩))
 have hcc:=hid (fun W (hW:Pure wz W)=>checkb_any v1 v2 B C W (HX.out W hW).1 (HX.out W hW).2 hl1 hl2)
 have hmay:=hid (fun m W=>mmayg_any m W)
 have hless:=hid (fun x y W=>less_any x y W)
 have hhas:=hid (fun (hok:COk B C) d W (hW:Pure wz W)=>has_any v1 v2 B C d W (HX.out W hW).1 (HX.out W hW).2 (br_rise hok.br) hok.cr (fun d hd=>by have:=hok.bok d hd;unfold dok at this;omega) hl1 hl2)
 have Hbad:=qh ((cchk B C=false∨allB M.length (bat (M,B,C))=false)→errOf (bchk (M,B,C))=1) (fun h=>by
  unfold bchk
  dsimp only
  rcases h with h|h <;> rw [h] <;> simp [errOf])
 have Hgood:=qh (cchk B C=true→allB M.length (bat (M,B,C))=true→errOf (bchk (M,B,C))=0) (fun h1 h2=>by
  unfold bchk
  dsimp only
  rw [h1,h2];rfl)
 generalize errOf (bchk (M,B,C))=E at *
 obtain ⟨g0,g1,g2⟩:=hC.out wz (Below.refl _ _)
 clear h0 h1 h2 hl1 hl2
 unfold dv cv at *
 unfold mv at hmay
 unfold errOf at hcc
 cases hcX:cchk B C with
 | false =>
   have HE:=hid (Hbad.out (.inl hcX))
   rw [hcX] at hcc
   clear hcX
   go_enter Tryz.func141,Tryz.ntmps141
   go_wp2_with fail
   rw [←hwz]
   clear hwz
   refine (hcc.out wz (Below.refl _ _)).mono ?_
   rintro e w1 ⟨rfl,hp1⟩
   have hx:=hid hp1
   clear hp1
   go_wp2
   go_ret
   exact ⟨by rw [HE.out];rfl,Hpz.out.then_ hx.out⟩
 | true =>
 rw [hcX] at hcc
 have HcX:=hid hcX
 have hhas:=hid (hhas.out (cchk_iff.1 hcX))
 clear hcX
 go_enter Tryz.func141,Tryz.ntmps141
 go_wp2_with fail
 rw [←hwz]
 clear hwz
 refine (hcc.out wz (Below.refl _ _)).mono ?_
 rintro e w1 ⟨rfl,hp1⟩
 have Hp1:=hid hp1
 obtain ⟨g0,g1,g2⟩:=hC.out w1 hp1
 clear hp1
 go_wp2_with fail
 go_loopw [12] (fun i wr=>∃k:Nat,k≤M.length∧i=.int .i64 k∧allB k (bat (M,B,C))=true∧Pure wz wr) (fun i _=>M.length-(RowKit.intOf i).toNat)
 case atStart=>exact ⟨0,Nat.zero_le _,rfl,rfl,Hp1.out⟩
 case round =>
  obtain ⟨k,hk,rfl,hal,hp⟩:=hrel
  have Hp:=hid hp
  have Hal:=hid hal
  clear hal
  by_cases hlt:k<M.length
  ·have hlt' : (k:Int)<(M.length:Int):=by omega
   have Hrow:=hid (HM.out wr hp)
   obtain ⟨b,off,rfl,hb,x0,x1,x2,x3,x4⟩:=Msgs.get Hrow.out hlt
   have hbat:=qh (bat (M,B,C) k=(mmay (M.getD k m0) && chas B C (M.getD k m0).1 && (decide (k=0) || dlt (M.getD (k-1) m0).1 (M.getD k m0).1))) (rfl)
   have hNo:=hid (fun (e:bat (M,B,C) k=false)=>Hbad.out (.inr (allB_false hlt e)))
   have hYes:=hid (fun (e:bat (M,B,C) k=true)=>allB_next Hal.out e)
   generalize bat (M,B,C) k=V at *
   generalize hgk:M.getD k m0=z at *
   obtain ⟨⟨z1,z2⟩,zq,zb,zc⟩:=z
   dsimp only at x0 x1 x2 x3 x4 hbat
   obtain ⟨Wd,hWd⟩:=qe (wr.alloc (.cells #[.int .i64 z1,.int .i64 z2,.string (bs zq),.string (bs zb),.int .i64 zc] 43))
   have hpd:Pure wr Wd:=by rw [hWd];exact qp
   have hbd:Wd.heap[wr.heap.size]?=some (.cells #[.int .i64 z1,.int .i64 z2,.string (bs zq),.string (bs zb),.int .i64 zc] 43 (0,0)):=by rw [hWd];exact ban _ _
   have hmy:=hid (fun W=>hmay.out ((z1,z2),zq,zb,zc) W)
   have hhs:=hid (fun W (hW:Pure wz W)=>hhas.out (z1,z2) W hW)
   dsimp only at hmy hhs
   clear hgk
   generalize mmay ((z1,z2),zq,zb,zc)=D1 at *
   generalize chas B C (z1,z2)=D2 at *
   cases D1 with
   | false =>
     have HE:=hid (hNo.out (by rw [hbat.out];rfl))
     have hS:Hid (∀W,Pure Wd W→(W.cell? ⟨wr.heap.size,0,none⟩=some (.int .i64 z1)∧W.cell? ⟨wr.heap.size,1,none⟩=some (.int .i64 z2)∧W.cell? ⟨wr.heap.size,2,none⟩=some (.string (bs zq))∧W.cell? ⟨wr.heap.size,3,none⟩=some (.string (bs zb))∧W.cell? ⟨wr.heap.size,4,none⟩=some (.int .i64 zc)∧W.cell? ⟨w.heap.size,0,none⟩=some (.slice (some ⟨b,off,none⟩) M.length c0)∧W.cell? ⟨w.heap.size,1,none⟩=some v1∧W.cell? ⟨w.heap.size,2,none⟩=some v2∧Pure Wd W)):=fun W hW=>by
      have hwb:=Pure.then_ hpd hW
      have ed:=(hW.block _ (lob hbd)).trans hbd
      obtain ⟨g0,g1,g2⟩:=hC.out W (hp.then_ hwb)
      exact ⟨cob ed 0,cob ed 1,cob ed 2,cob ed 3,cob ed 4,g0,g1,g2,hW⟩
     have hst:=hid (hS.out Wd.drew qv)
     have hS2:Hid (∀W:World,(W.cell? ⟨wr.heap.size,0,none⟩=some (.int .i64 z1)∧W.cell? ⟨wr.heap.size,1,none⟩=some (.int .i64 z2)∧W.cell? ⟨wr.heap.size,2,none⟩=some (.string (bs zq))∧W.cell? ⟨wr.heap.size,3,none⟩=some (.string (bs zb))∧W.cell? ⟨wr.heap.size,4,none⟩=some (.int .i64 zc)∧W.cell? ⟨w.heap.size,0,none⟩=some (.slice (some ⟨b,off,none⟩) M.length c0)∧W.cell? ⟨w.heap.size,1,none⟩=some v1∧W.cell? ⟨w.heap.size,2,none⟩=some v2∧Pure Wd W)→Pure Wd W):=fun W h=>h.2.2.2.2.2.2.2.2
     have Hpd:=hid hpd
     have Hwd:=hid (hp.then_ hpd)
     clear hp hb hbd hpd
     go_wp2_with fail
     rw [←hWd]
     clear hWd x0 x1 x2 x3 x4
     refine wp_region_held_drew (S:=(fun W=>W.cell? ⟨wr.heap.size,0,none⟩=some (.int .i64 z1)∧W.cell? ⟨wr.heap.size,1,none⟩=some (.int .i64 z2)∧W.cell? ⟨wr.heap.size,2,none⟩=some (.string (bs zq))∧W.cell? ⟨wr.heap.size,3,none⟩=some (.string (bs zb))∧W.cell? ⟨wr.heap.size,4,none⟩=some (.int .i64 zc)∧W.cell? ⟨w.heap.size,0,none⟩=some (.slice (some ⟨b,off,none⟩) M.length c0)∧W.cell? ⟨w.heap.size,1,none⟩=some v1∧W.cell? ⟨w.heap.size,2,none⟩=some v2∧Pure Wd W)) qk ?_ (fun hHeld=>?_)
     ·exact qz
     refine tkA 0 ?_
     refine tkC 1 fun K hK=>?_
     go_simp
     go_at_call 178;(with_reducible refine (hmy.out _).mono ?_);rintro e w7 ⟨rfl,hp7⟩;go_wp2_with fail
     refine hK.out _ _ qz fun hHeld=>?_
     clear hK K
     refine tkA 2 ?_
     refine tkA 3 ?_
     refine tkU 4 ?_
     refine tkU 5 ?_
     refine tkU 6 ?_
     refine tkU 7 ?_
     refine tkU 8 ?_
     refine tkU 9 ?_
     refine tkA 10 ?_
     refine tkA 11 ?_
     refine tkU 12 ?_
     refine tkU 13 ?_
     refine tkU 14 ?_
     refine tkU 15 ?_
     refine tkU 16 ?_
     refine tkU 17 ?_
     refine tkU 18 ?_
     refine tkU 19 ?_
     refine tkU 20 ?_
     refine tkU 21 ?_
     refine tkU 22 ?_
     refine tkU 23 ?_
     refine tkU 24 ?_
     refine tkU 25 ?_
     refine tkU 26 ?_
     refine tkA 27 ?_
     refine wpAnyH_done qk ?_ _
     have hx:=hid (Hp.out.then_ (Pure.then_ Hpd.out (hS2.out w7 qa)))
     clear hst hS hS2 hp7
     go_wp2
     go_ret
     exact ⟨by rw [HE.out];rfl,Hpz.out.then_ hx.out⟩
   | true =>
   cases D2 with
   | false =>
     have HE:=hid (hNo.out (by rw [hbat.out];rfl))
     have hS:Hid (∀W,Pure Wd W→(W.cell? ⟨wr.heap.size,0,none⟩=some (.int .i64 z1)∧W.cell? ⟨wr.heap.size,1,none⟩=some (.int .i64 z2)∧W.cell? ⟨wr.heap.size,2,none⟩=some (.string (bs zq))∧W.cell? ⟨wr.heap.size,3,none⟩=some (.string (bs zb))∧W.cell? ⟨wr.heap.size,4,none⟩=some (.int .i64 zc)∧W.cell? ⟨w.heap.size,0,none⟩=some (.slice (some ⟨b,off,none⟩) M.length c0)∧W.cell? ⟨w.heap.size,1,none⟩=some v1∧W.cell? ⟨w.heap.size,2,none⟩=some v2∧Pure Wd W)):=fun W hW=>by
      have hwb:=Pure.then_ hpd hW
      have ed:=(hW.block _ (lob hbd)).trans hbd
      obtain ⟨g0,g1,g2⟩:=hC.out W (hp.then_ hwb)
      exact ⟨cob ed 0,cob ed 1,cob ed 2,cob ed 3,cob ed 4,g0,g1,g2,hW⟩
     have hst:=hid (hS.out Wd.drew qv)
     have hS2:Hid (∀W:World,(W.cell? ⟨wr.heap.size,0,none⟩=some (.int .i64 z1)∧W.cell? ⟨wr.heap.size,1,none⟩=some (.int .i64 z2)∧W.cell? ⟨wr.heap.size,2,none⟩=some (.string (bs zq))∧W.cell? ⟨wr.heap.size,3,none⟩=some (.string (bs zb))∧W.cell? ⟨wr.heap.size,4,none⟩=some (.int .i64 zc)∧W.cell? ⟨w.heap.size,0,none⟩=some (.slice (some ⟨b,off,none⟩) M.length c0)∧W.cell? ⟨w.heap.size,1,none⟩=some v1∧W.cell? ⟨w.heap.size,2,none⟩=some v2∧Pure Wd W)→Pure Wd W):=fun W h=>h.2.2.2.2.2.2.2.2
     have Hpd:=hid hpd
     have Hwd:=hid (hp.then_ hpd)
     clear hp hb hbd hpd
     go_wp2_with fail
     rw [←hWd]
     clear hWd x0 x1 x2 x3 x4
     refine wp_region_held_drew (S:=(fun W=>W.cell? ⟨wr.heap.size,0,none⟩=some (.int .i64 z1)∧W.cell? ⟨wr.heap.size,1,none⟩=some (.int .i64 z2)∧W.cell? ⟨wr.heap.size,2,none⟩=some (.string (bs zq))∧W.cell? ⟨wr.heap.size,3,none⟩=some (.string (bs zb))∧W.cell? ⟨wr.heap.size,4,none⟩=some (.int .i64 zc)∧W.cell? ⟨w.heap.size,0,none⟩=some (.slice (some ⟨b,off,none⟩) M.length c0)∧W.cell? ⟨w.heap.size,1,none⟩=some v1∧W.cell? ⟨w.heap.size,2,none⟩=some v2∧Pure Wd W)) qk ?_ (fun hHeld=>?_)
     ·exact qz
     refine tkA 0 ?_
     refine tkC 1 fun K hK=>?_
     go_simp
     go_at_call 178;(with_reducible refine (hmy.out _).mono ?_);rintro e w7 ⟨rfl,hp7⟩;go_wp2_with fail
     refine hK.out _ _ qz fun hHeld=>?_
     clear hK K
     refine tkA 2 ?_
     refine tkA 3 ?_
     refine tkA 4 ?_
     refine tkA 5 ?_
     refine tkA 6 ?_
     refine tkA 7 ?_
     refine tkC 8 fun K hK=>?_
     go_simp
     go_at_call 144;(with_reducible refine (hhs.out _ (Pure.then_ Hwd.out (hS2.out _ qa))).mono ?_);rintro e w8 ⟨rfl,hp8⟩;go_wp2_with fail
     refine hK.out _ _ qz fun hHeld=>?_
     clear hK K
     refine tkA 9 ?_
     refine tkA 10 ?_
     refine tkA 11 ?_
     refine tkU 12 ?_
     refine tkU 13 ?_
     refine tkU 14 ?_
     refine tkU 15 ?_
     refine tkU 16 ?_
     refine tkU 17 ?_
     refine tkU 18 ?_
     refine tkU 19 ?_
     refine tkU 20 ?_
     refine tkU 21 ?_
     refine tkU 22 ?_
     refine tkU 23 ?_
     refine tkU 24 ?_
     refine tkU 25 ?_
     refine tkU 26 ?_
     refine tkA 27 ?_
     refine wpAnyH_done qk ?_ _
     have hx:=hid (Hp.out.then_ (Pure.then_ Hpd.out (hS2.out w8 qa)))
     clear hst hS hS2 hp7 hp8
     go_wp2
     go_ret
     exact ⟨by rw [HE.out];rfl,Hpz.out.then_ hx.out⟩
   | true =>
   by_cases h0:0<k
   ·have h0' : (0:Int)<(k:Int):=by omega
    have hsub:IntKind.i64.wrap ((k:Int)-1)=((k-1:Nat):Int):=by rw [IntWalk.i64_in _ oe];omega
    have hsub2:(k:Int)-1=((k-1:Nat):Int):=by omega
    have hlt2:((k-1:Nat):Int)<(M.length:Int):=by omega
    have hn:(0:Int)≤((k-1:Nat):Int):=by omega
    have hwm:IntKind.i64.wrap (((k-1:Nat):Nat):Int)=((k-1:Nat):Int):=IntWalk.i64_in _ oe
    obtain ⟨b',off',e',hb',y0,y1,-,-,-⟩:=Msgs.get Hrow.out (show k-1<M.length by omega)
    cases e'
    generalize M.getD (k-1) m0=y at *
    obtain ⟨⟨q1,q2⟩,yq,yb,yc⟩:=y
    dsimp only at y0 y1 hbat
    have hls:=hid (fun W=>hless.out (q1,q2) (z1,z2) W)
    dsimp only at hls
    have hbat2:=qh (V=dlt (q1,q2) (z1,z2)) (by rw [hbat.out,decide_eq_false (show ¬k=0 by omega)];rfl)
    generalize dlt (q1,q2) (z1,z2)=D3 at *
    cases D3 with
    | false =>
      have HE:=hid (hNo.out hbat2.out)
      have hS:Hid (∀W,Pure Wd W→(W.cell? ⟨wr.heap.size,0,none⟩=some (.int .i64 z1)∧W.cell? ⟨wr.heap.size,1,none⟩=some (.int .i64 z2)∧W.cell? ⟨wr.heap.size,2,none⟩=some (.string (bs zq))∧W.cell? ⟨wr.heap.size,3,none⟩=some (.string (bs zb))∧W.cell? ⟨wr.heap.size,4,none⟩=some (.int .i64 zc)∧W.cell? ⟨w.heap.size,0,none⟩=some (.slice (some ⟨b,off,none⟩) M.length c0)∧W.cell? ⟨w.heap.size,1,none⟩=some v1∧W.cell? ⟨w.heap.size,2,none⟩=some v2∧W.cell? ⟨b,off+(k-1)*5,none⟩=some (.int .i64 q1)∧W.cell? ⟨b,off+(k-1)*5+1,none⟩=some (.int .i64 q2)∧Pure Wd W)):=fun W hW=>by
       have hwb:=Pure.then_ hpd hW
       have ed:=(hW.block _ (lob hbd)).trans hbd
       obtain ⟨g0,g1,g2⟩:=hC.out W (hp.then_ hwb)
       exact ⟨cob ed 0,cob ed 1,cob ed 2,cob ed 3,cob ed 4,g0,g1,g2,(hwb.cell hb).trans y0,(hwb.cell hb).trans y1,hW⟩
      have hst:=hid (hS.out Wd.drew qv)
      have hS2:Hid (∀W:World,(W.cell? ⟨wr.heap.size,0,none⟩=some (.int .i64 z1)∧W.cell? ⟨wr.heap.size,1,none⟩=some (.int .i64 z2)∧W.cell? ⟨wr.heap.size,2,none⟩=some (.string (bs zq))∧W.cell? ⟨wr.heap.size,3,none⟩=some (.string (bs zb))∧W.cell? ⟨wr.heap.size,4,none⟩=some (.int .i64 zc)∧W.cell? ⟨w.heap.size,0,none⟩=some (.slice (some ⟨b,off,none⟩) M.length c0)∧W.cell? ⟨w.heap.size,1,none⟩=some v1∧W.cell? ⟨w.heap.size,2,none⟩=some v2∧W.cell? ⟨b,off+(k-1)*5,none⟩=some (.int .i64 q1)∧W.cell? ⟨b,off+(k-1)*5+1,none⟩=some (.int .i64 q2)∧Pure Wd W)→Pure Wd W):=fun W h=>h.2.2.2.2.2.2.2.2.2.2
      have Hpd:=hid hpd
      have Hwd:=hid (hp.then_ hpd)
      clear hp hb hbd hpd y0 y1
      generalize hj:k-1=j at *
      go_wp2_with fail
      rw [←hWd]
      clear hWd x0 x1 x2 x3 x4
      refine wp_region_held_drew (S:=(fun W=>W.cell? ⟨wr.heap.size,0,none⟩=some (.int .i64 z1)∧W.cell? ⟨wr.heap.size,1,none⟩=some (.int .i64 z2)∧W.cell? ⟨wr.heap.size,2,none⟩=some (.string (bs zq))∧W.cell? ⟨wr.heap.size,3,none⟩=some (.string (bs zb))∧W.cell? ⟨wr.heap.size,4,none⟩=some (.int .i64 zc)∧W.cell? ⟨w.heap.size,0,none⟩=some (.slice (some ⟨b,off,none⟩) M.length c0)∧W.cell? ⟨w.heap.size,1,none⟩=some v1∧W.cell? ⟨w.heap.size,2,none⟩=some v2∧W.cell? ⟨b,off+j*5,none⟩=some (.int .i64 q1)∧W.cell? ⟨b,off+j*5+1,none⟩=some (.int .i64 q2)∧Pure Wd W)) qk ?_ (fun hHeld=>?_)
      ·exact qz
      refine tkA 0 ?_
      refine tkC 1 fun K hK=>?_
      go_simp
      go_at_call 178;(with_reducible refine (hmy.out _).mono ?_);rintro e w7 ⟨rfl,hp7⟩;go_wp2_with fail
      refine hK.out _ _ qz fun hHeld=>?_
      clear hK K
      refine tkA 2 ?_
      refine tkA 3 ?_
      refine tkA 4 ?_
      refine tkA 5 ?_
      refine tkA 6 ?_
      refine tkA 7 ?_
      refine tkC 8 fun K hK=>?_
      go_simp
      go_at_call 144;(with_reducible refine (hhs.out _ (Pure.then_ Hwd.out (hS2.out _ qa))).mono ?_);rintro e w8 ⟨rfl,hp8⟩;go_wp2_with fail
      refine hK.out _ _ qz fun hHeld=>?_
      clear hK K
      refine tkA 9 ?_
      refine tkA 10 ?_
      refine tkA 11 ?_
      refine tkA 12 ?_
      refine tkA 13 ?_
      refine tkA 14 ?_
      refine tkA 15 ?_
      refine tkA 16 ?_
      refine tkA 17 ?_
      refine tkA 18 ?_
      refine tkA 19 ?_
      refine tkA 20 ?_
      refine tkA 21 ?_
      refine tkA 22 ?_
      refine tkA 23 ?_
      refine tkC 24 fun K hK=>?_
      go_simp
      go_at_call 145;(with_reducible refine (hls.out _).mono ?_);rintro e w9 ⟨rfl,hp9⟩;go_wp2_with fail
      refine hK.out _ _ qz fun hHeld=>?_
      clear hK K
      refine tkA 25 ?_
      refine tkA 26 ?_
      refine tkA 27 ?_
      refine wpAnyH_done qk ?_ _
      have hx:=hid (Hp.out.then_ (Pure.then_ Hpd.out (hS2.out w9 qa)))
      clear hst hS hS2 hp7 hp8 hp9
      go_wp2
      go_ret
      exact ⟨by rw [HE.out];rfl,Hpz.out.then_ hx.out⟩
    | true =>
      have HN:=hid (hYes.out hbat2.out)
      have hS:Hid (∀W,Pure Wd W→(W.cell? ⟨wr.heap.size,0,none⟩=some (.int .i64 z1)∧W.cell? ⟨wr.heap.size,1,none⟩=some (.int .i64 z2)∧W.cell? ⟨wr.heap.size,2,none⟩=some (.string (bs zq))∧W.cell? ⟨wr.heap.size,3,none⟩=some (.string (bs zb))∧W.cell? ⟨wr.heap.size,4,none⟩=some (.int .i64 zc)∧W.cell? ⟨w.heap.size,0,none⟩=some (.slice (some ⟨b,off,none⟩) M.length c0)∧W.cell? ⟨w.heap.size,1,none⟩=some v1∧W.cell? ⟨w.heap.size,2,none⟩=some v2∧W.cell? ⟨b,off+(k-1)*5,none⟩=some (.int .i64 q1)∧W.cell? ⟨b,off+(k-1)*5+1,none⟩=some (.int .i64 q2)∧Pure Wd W)):=fun W hW=>by
       have hwb:=Pure.then_ hpd hW
       have ed:=(hW.block _ (lob hbd)).trans hbd
       obtain ⟨g0,g1,g2⟩:=hC.out W (hp.then_ hwb)
       exact ⟨cob ed 0,cob ed 1,cob ed 2,cob ed 3,cob ed 4,g0,g1,g2,(hwb.cell hb).trans y0,(hwb.cell hb).trans y1,hW⟩
      have hst:=hid (hS.out Wd.drew qv)
      have hS2:Hid (∀W:World,(W.cell? ⟨wr.heap.size,0,none⟩=some (.int .i64 z1)∧W.cell? ⟨wr.heap.size,1,none⟩=some (.int .i64 z2)∧W.cell? ⟨wr.heap.size,2,none⟩=some (.string (bs zq))∧W.cell? ⟨wr.heap.size,3,none⟩=some (.string (bs zb))∧W.cell? ⟨wr.heap.size,4,none⟩=some (.int .i64 zc)∧W.cell? ⟨w.heap.size,0,none⟩=some (.slice (some ⟨b,off,none⟩) M.length c0)∧W.cell? ⟨w.heap.size,1,none⟩=some v1∧W.cell? ⟨w.heap.size,2,none⟩=some v2∧W.cell? ⟨b,off+(k-1)*5,none⟩=some (.int .i64 q1)∧W.cell? ⟨b,off+(k-1)*5+1,none⟩=some (.int .i64 q2)∧Pure Wd W)→Pure Wd W):=fun W h=>h.2.2.2.2.2.2.2.2.2.2
      have Hpd:=hid hpd
      have Hwd:=hid (hp.then_ hpd)
      clear hp hb hbd hpd y0 y1
      generalize hj:k-1=j at *
      go_wp2_with fail
      rw [←hWd]
      clear hWd x0 x1 x2 x3 x4
      refine wp_region_held_drew (S:=(fun W=>W.cell? ⟨wr.heap.size,0,none⟩=some (.int .i64 z1)∧W.cell? ⟨wr.heap.size,1,none⟩=some (.int .i64 z2)∧W.cell? ⟨wr.heap.size,2,none⟩=some (.string (bs zq))∧W.cell? ⟨wr.heap.size,3,none⟩=some (.string (bs zb))∧W.cell? ⟨wr.heap.size,4,none⟩=some (.int .i64 zc)∧W.cell? ⟨w.heap.size,0,none⟩=some (.slice (some ⟨b,off,none⟩) M.length c0)∧W.cell? ⟨w.heap.size,1,none⟩=some v1∧W.cell? ⟨w.heap.size,2,none⟩=some v2∧W.cell? ⟨b,off+j*5,none⟩=some (.int .i64 q1)∧W.cell? ⟨b,off+j*5+1,none⟩=some (.int .i64 q2)∧Pure Wd W)) qk ?_ (fun hHeld=>?_)
      ·exact qz
      refine tkA 0 ?_
      refine tkC 1 fun K hK=>?_
      go_simp
      go_at_call 178;(with_reducible refine (hmy.out _).mono ?_);rintro e w7 ⟨rfl,hp7⟩;go_wp2_with fail
      refine hK.out _ _ qz fun hHeld=>?_
      clear hK K
      refine tkA 2 ?_
      refine tkA 3 ?_
      refine tkA 4 ?_
      refine tkA 5 ?_
      refine tkA 6 ?_
      refine tkA 7 ?_
      refine tkC 8 fun K hK=>?_
      go_simp
      go_at_call 144;(with_reducible refine (hhs.out _ (Pure.then_ Hwd.out (hS2.out _ qa))).mono ?_);rintro e w8 ⟨rfl,hp8⟩;go_wp2_with fail
      refine hK.out _ _ qz fun hHeld=>?_
      clear hK K
      refine tkA 9 ?_
      refine tkA 10 ?_
      refine tkA 11 ?_
      refine tkA 12 ?_
      refine tkA 13 ?_
      refine tkA 14 ?_
      refine tkA 15 ?_
      refine tkA 16 ?_
      refine tkA 17 ?_
      refine tkA 18 ?_
      refine tkA 19 ?_
      refine tkA 20 ?_
      refine tkA 21 ?_
      refine tkA 22 ?_
      refine tkA 23 ?_
      refine tkC 24 fun K hK=>?_
      go_simp
      go_at_call 145;(with_reducible refine (hls.out _).mono ?_);rintro e w9 ⟨rfl,hp9⟩;go_wp2_with fail
      refine hK.out _ _ qz fun hHeld=>?_
      clear hK K
      refine tkA 25 ?_
      refine tkA 26 ?_
      refine tkA 27 ?_
      refine wpAnyH_done qk ?_ _
      have hx:=hid (Hp.out.then_ (Pure.then_ Hpd.out (hS2.out w9 qa)))
      clear hst hS hS2 hp7 hp8 hp9
      go_wp2
      go_roundw
      case rel=>exact ⟨k+1,by omega,by go_num,HN.out,hx.out⟩
      case measure=>simp [RowKit.intOf];omega
   ·have hg:decide ((0:Int)<(k:Int))=false:=by simp;omega
    have HN:=hid (hYes.out (by rw [hbat.out,decide_eq_true (show k=0 by omega)];rfl))
    have hS:Hid (∀W,Pure Wd W→(W.cell? ⟨wr.heap.size,0,none⟩=some (.int .i64 z1)∧W.cell? ⟨wr.heap.size,1,none⟩=some (.int .i64 z2)∧W.cell? ⟨wr.heap.size,2,none⟩=some (.string (bs zq))∧W.cell? ⟨wr.heap.size,3,none⟩=some (.string (bs zb))∧W.cell? ⟨wr.heap.size,4,none⟩=some (.int .i64 zc)∧W.cell? ⟨w.heap.size,0,none⟩=some (.slice (some ⟨b,off,none⟩) M.length c0)∧W.cell? ⟨w.heap.size,1,none⟩=some v1∧W.cell? ⟨w.heap.size,2,none⟩=some v2∧Pure Wd W)):=fun W hW=>by
     have hwb:=Pure.then_ hpd hW
     have ed:=(hW.block _ (lob hbd)).trans hbd
     obtain ⟨g0,g1,g2⟩:=hC.out W (hp.then_ hwb)
     exact ⟨cob ed 0,cob ed 1,cob ed 2,cob ed 3,cob ed 4,g0,g1,g2,hW⟩
    have hst:=hid (hS.out Wd.drew qv)
    have hS2:Hid (∀W:World,(W.cell? ⟨wr.heap.size,0,none⟩=some (.int .i64 z1)∧W.cell? ⟨wr.heap.size,1,none⟩=some (.int .i64 z2)∧W.cell? ⟨wr.heap.size,2,none⟩=some (.string (bs zq))∧W.cell? ⟨wr.heap.size,3,none⟩=some (.string (bs zb))∧W.cell? ⟨wr.heap.size,4,none⟩=some (.int .i64 zc)∧W.cell? ⟨w.heap.size,0,none⟩=some (.slice (some ⟨b,off,none⟩) M.length c0)∧W.cell? ⟨w.heap.size,1,none⟩=some v1∧W.cell? ⟨w.heap.size,2,none⟩=some v2∧Pure Wd W)→Pure Wd W):=fun W h=>h.2.2.2.2.2.2.2.2
    have Hpd:=hid hpd
    have Hwd:=hid (hp.then_ hpd)
    clear hp hb hbd hpd
    go_wp2_with fail
    rw [←hWd]
    clear hWd x0 x1 x2 x3 x4
    refine wp_region_held_drew (S:=(fun W=>W.cell? ⟨wr.heap.size,0,none⟩=some (.int .i64 z1)∧W.cell? ⟨wr.heap.size,1,none⟩=some (.int .i64 z2)∧W.cell? ⟨wr.heap.size,2,none⟩=some (.string (bs zq))∧W.cell? ⟨wr.heap.size,3,none⟩=some (.string (bs zb))∧W.cell? ⟨wr.heap.size,4,none⟩=some (.int .i64 zc)∧W.cell? ⟨w.heap.size,0,none⟩=some (.slice (some ⟨b,off,none⟩) M.length c0)∧W.cell? ⟨w.heap.size,1,none⟩=some v1∧W.cell? ⟨w.heap.size,2,none⟩=some v2∧Pure Wd W)) qk ?_ (fun hHeld=>?_)
    ·exact qz
    refine tkA 0 ?_
    refine tkC 1 fun K hK=>?_
    go_simp
    go_at_call 178;(with_reducible refine (hmy.out _).mono ?_);rintro e w7 ⟨rfl,hp7⟩;go_wp2_with fail
    refine hK.out _ _ qz fun hHeld=>?_
    clear hK K
    refine tkA 2 ?_
    refine tkA 3 ?_
    refine tkA 4 ?_
    refine tkA 5 ?_
    refine tkA 6 ?_
    refine tkA 7 ?_
    refine tkC 8 fun K hK=>?_
    go_simp
    go_at_call 144;(with_reducible refine (hhs.out _ (Pure.then_ Hwd.out (hS2.out _ qa))).mono ?_);rintro e w8 ⟨rfl,hp8⟩;go_wp2_with fail
    refine hK.out _ _ qz fun hHeld=>?_
    clear hK K
    refine tkA 9 ?_
    refine tkA 10 ?_
    refine tkA 11 ?_
    refine tkA 12 ?_
    refine tkA 13 ?_
    refine tkA 14 ?_
    refine tkU 15 ?_
    refine tkU 16 ?_
    refine tkU 17 ?_
    refine tkU 18 ?_
    refine tkU 19 ?_
    refine tkU 20 ?_
    refine tkU 21 ?_
    refine tkU 22 ?_
    refine tkU 23 ?_
    refine tkU 24 ?_
    refine tkU 25 ?_
    refine tkA 26 ?_
    refine tkA 27 ?_
    refine wpAnyH_done qk ?_ _
    have hx:=hid (Hp.out.then_ (Pure.then_ Hpd.out (hS2.out w8 qa)))
    clear hst hS hS2 hp7 hp8
    go_wp2
    go_roundw
    case rel=>exact ⟨k+1,by omega,by go_num,HN.out,hx.out⟩
    case measure=>simp [RowKit.intOf];omega
  ·obtain rfl:k=M.length:=by omega
   have hlt' : ¬(M.length:Int)<(M.length:Int):=by omega
   have HE:=hid (Hgood.out HcX.out Hal.out)
   clear hp
   go_wp2
   go_ret
   exact ⟨by rw [HE.out];rfl,Hpz.out.then_ Hp.out⟩
end Go.Proofs.YtdlpnhfgjficgaaGreat
