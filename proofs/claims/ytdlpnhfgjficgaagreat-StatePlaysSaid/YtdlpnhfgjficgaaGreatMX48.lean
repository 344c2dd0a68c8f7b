import Derived.Test.YtdlpnhfgjficgaaGreatMX0
import Derived.Deep.CutBlock
namespace Go.Proofs.YtdlpnhfgjficgaaGreat
section
set_option maxHeartbeats 8000000
set_option maxRecDepth 20000
open Go.RowKit Go.Maps Go.Shelf
def ORw (w:World) (c:Nat) (L:List (List UInt8)) (v:Value) (W:World):Prop:=W.ownsRow w.heap.size 9 1 v L.length (svs L)∧Pure w W∧L.length≤c
theorem ORw.add {w W W6 W7:World} {c k:Nat} {L:List (List UInt8)} {av v6:Value} {t:List UInt8} (h:ORw w c L av W) (hp:Pure W W6) (ho:W7.ownsRow w.heap.size 9 1 v6 (L.length+1) (svs L++svs [t])) (hg:(W6.alloc (.cells #[.string (bs t)] 9)).grownBy W7 av.ownBlock) (hk:c+1≤k):ORw w k (L++[t]) v6 W7:=by
 obtain ⟨h1,h2,h3⟩:=h
 have h6:=h2.then_ hp
 refine ⟨by rw [svs_append,List.length_append];exact ho,(h6.alloc h6.size _).grown hg (by have:=h6.size;simp;omega) (fun j hj=>(h1.lt j hj).1),?_⟩
 rw [List.length_append]
 simp
 omega
theorem rec1_t {b:Bool} (h:b=true) (t:List UInt8):rec1 b t=[t]:=by rw [h];rfl
theorem rec1_f {b:Bool} (h:b=false) (t:List UInt8):rec1 b t=[]:=by rw [h];rfl
theorem RSt2.rat {n m:Nat} {S:SD} {w:World} (h:RSt2 n m S w):∃r,RAt n S.id S.up r w∧SRows n r S w:=by obtain ⟨r,h1,h2,_⟩:=h;exact ⟨r,h1,h2⟩
theorem rrecs_any (n:Nat) (S:SD) (m q:Nat) (w:World) (h:RSt2 n q S w) (hok:SOk m S) (hm:m≤10000) :
 Calls Tryz.prog 82 #[.pointer (some ⟨n,0,none⟩)] w (StrsO w (srecs S)):=by
 obtain ⟨r,hA,hR⟩:=h.rat
 obtain ⟨vt,et,ht,-⟩:=hR.tags
 obtain ⟨vv,ev,hv,-⟩:=hR.view
 obtain ⟨vh,eh,hh,-⟩:=hR.holds
 obtain ⟨ta,tc,rfl⟩:=ht.shape
 obtain ⟨va,vc,rfl⟩:=Peers.shape hv
 obtain ⟨ha,hc,rfl⟩:=hh.shape
 have HA:=hid hA
 have HR:=hid hR
 have Hok:=hid hok
 have HF:=hid (fun W (hW:Pure w W)=>(show W.cell? ⟨n,0,none⟩=some (.int .i64 S.id)∧W.cell? ⟨n,1,none⟩=some (.int .i64 S.up)∧W.cell? ⟨n,50,none⟩=some (.slice ta S.tags.length tc)∧W.cell? ⟨n,51,none⟩=some (.slice va S.view.length vc)∧W.cell? ⟨n,52,none⟩=some (.slice ha S.holds.length hc) from
  ⟨(HA.out.pure hW).cells.1,(HA.out.pure hW).cells.2.1,((HA.out.pure hW).at2 (j':=50) et rfl).1,((HA.out.pure hW).at2 (j':=51) ev rfl).1,((HA.out.pure hW).at2 (j':=52) eh rfl).1⟩))
 have J1:=hid (fun W=>rborn_any S.id W hok.id0 (by have:=hok.id1;omega))
 have J2:=hid (fun W=>rreserve_any S.up W hok.up0 (by have:=hok.up1;omega))
 have J3:=hid (fun W (hW:Pure w W)=>rtagged_any _ S.tags W (Row.pure ht hW) Hok.out.tags)
 have J4:=hid (fun W (hW:Pure w W)=>rseen_any _ S.view W (Row.pure hv hW) Hok.out.view)
 have J5:=hid (fun W (hW:Pure w W)=>rheld_any _ S.holds W (Row.pure hh hW) Hok.out.holds)
 obtain ⟨i0,hi,hz0,hz1,hz2⟩:=ipt infoStr
 have HO0:=qh (ORw w 0 [] (.slice none 0 0) w) (⟨World.ownsRow_nil _ _ _ _,Below.refl _ _,Nat.le_refl _⟩)
 obtain ⟨c0,c1,c2,c3,c4⟩:=HF.out w (Below.refl _ _)
 have hmx:=hm
 clear hA hR ht hv hh et ev eh hok h hm
 go_enter Tryz.func82,Tryz.ntmps82
 go_upto_if 10 with fail
 clear c0 c1 c2 c3 c4
 obtain ⟨L0,hL0⟩:=qe (([]:List (List UInt8)))
 obtain ⟨T0,hT0⟩:=qe ((73::num S.id.toNat))
 have JC:=hid (fun W (hW:Pure w W)=>J1.out W)
 rw [←hT0] at JC
 obtain ⟨V0,hV0⟩:=qe (Value.slice none 0 0)
 rw [←hL0,←hV0] at HO0
 rw [←hV0];clear hV0
 obtain ⟨b0,hb0⟩:=qe ((S.id != 0))
 obtain ⟨c0,c1,c2,c3,c4⟩:=HF.out _ HO0.out.2.1
 go_cut [3] from 10 to 18 (fun v wx=>ORw w 1 (L0++rec1 b0 T0) v wx)
 case first =>
  cases hb' : b0
  ·have hb:(S.id != 0)=false:=by rw [←hb0];exact hb'
   have hg:(S.id != 0)=false:=hb
   have HE:=qh (ORw w 1 (L0++rec1 b0 T0) V0 w) (by rw [rec1_f hb',List.append_nil];exact ⟨HO0.out.1,HO0.out.2.1,by have:=HO0.out.2.2;omega⟩)
   clear hb hb' hb0 hL0 hT0
   go_wp2
   go_meet
   case rel=>exact HE.out
  ·have hb:(S.id != 0)=true:=by rw [←hb0];exact hb'
   have hg:(S.id != 0)=true:=hb
   have hown:=HO0.out.1
   obtain ⟨av,cv,hVV⟩:=osd hown
   have Hb':=hid hb'
   clear hb hb' hb0 hL0 hT0 hown
   subst hVV
   go_wp2_with fail
   refine (JC.out _ HO0.out.2.1).mono ?_
   rintro e w5 ⟨rfl,hp5⟩
   have Hq:=hid hp5
   clear hp5
   have hle:=HO0.out.2.2
   go_wp2_with (at_builtin;refine wpList_append_own _ rfl _ _ 61 rfl w.heap.size 9 i0 (.string ⟨#[]⟩) 1 16 Tryz.underlying61 hi hz0 hz1 hz2 rfl qd (.slice av L0.length cv) L0.length (svs L0) rfl ((own_pure HO0.out.1 Hq.out).alloc _) ⟨w5.heap.size,0,none⟩ 1 1 (svs [T0]) rfl rfl (str_lit_cells w5 T0) (svs_one _) (by unfold maxLen;omega) oe (by have:=(HO0.out.2.1.then_ Hq.out).size;simp;omega) ?_)
   intro v6 w6 hown6 hg6 _
   have HE:=qh (ORw w 1 (L0++rec1 b0 T0) v6 w6) (by rw [rec1_t Hb'.out];exact HO0.out.add Hq.out hown6 hg6 (Nat.le_refl _))
   clear hown6 hg6 hle
   go_wp2
   go_meet
   case rel=>exact HE.out
 case rest =>
 have HN:=hcut
 clear hcut c0 c1 c2 c3 c4 JC
 generalize u3=V1 at *
 generalize wc=W1 at *
 obtain ⟨c0,c1,c2,c3,c4⟩:=HF.out _ HN.2.1
 go_upto_if 23 with fail
 clear c0 c1 c2 c3 c4
 obtain ⟨L1,hL1⟩:=qe (L0++rec1 b0 T0)
 obtain ⟨T1,hT1⟩:=qe ((82::num S.up.toNat))
 have JC:=hid (fun W (hW:Pure w W)=>J2.out W)
 rw [←hT1] at JC
 have HO1:=qh (ORw w 1 L1 V1 W1) (by rw [hL1];exact HN)
 clear HN
 obtain ⟨b1,hb1⟩:=qe ((S.up != 0))
 obtain ⟨c0,c1,c2,c3,c4⟩:=HF.out _ HO1.out.2.1
 go_cut [3] from 23 to 31 (fun v wx=>ORw w 2 (L1++rec1 b1 T1) v wx)
 case first =>
  cases hb' : b1
  ·have hb:(S.up != 0)=false:=by rw [←hb1];exact hb'
   have hg:(S.up != 0)=false:=hb
   have HE:=qh (ORw w 2 (L1++rec1 b1 T1) V1 W1) (by rw [rec1_f hb',List.append_nil];exact ⟨HO1.out.1,HO1.out.2.1,by have:=HO1.out.2.2;omega⟩)
   clear hb hb' hb1 hL1 hT1
   go_wp2
   go_meet
   case rel=>exact HE.out
  ·have hb:(S.up != 0)=true:=by rw [←hb1];exact hb'
   have hg:(S.up != 0)=true:=hb
   have hown:=HO1.out.1
   obtain ⟨av,cv,hVV⟩:=osd hown
   have Hb':=hid hb'
   clear hb hb' hb1 hL1 hT1 hown
   subst hVV
   go_wp2_with fail
   refine (JC.out _ HO1.out.2.1).mono ?_
   rintro e w5 ⟨rfl,hp5⟩
   have Hq:=hid hp5
   clear hp5
   have hle:=HO1.out.2.2
   go_wp2_with (at_builtin;refine wpList_append_own _ rfl _ _ 61 rfl w.heap.size 9 i0 (.string ⟨#[]⟩) 1 16 Tryz.underlying61 hi hz0 hz1 hz2 rfl qd (.slice av L1.length cv) L1.length (svs L1) rfl ((own_pure HO1.out.1 Hq.out).alloc _) ⟨w5.heap.size,0,none⟩ 1 1 (svs [T1]) rfl rfl (str_lit_cells w5 T1) (svs_one _) (by unfold maxLen;omega) oe (by have:=(HO1.out.2.1.then_ Hq.out).size;simp;omega) ?_)
   intro v6 w6 hown6 hg6 _
   have HE:=qh (ORw w 2 (L1++rec1 b1 T1) v6 w6) (by rw [rec1_t Hb'.out];exact HO1.out.add Hq.out hown6 hg6 (Nat.le_refl _))
   clear hown6 hg6 hle
   go_wp2
   go_meet
   case rel=>exact HE.out
 case rest =>
 have HN:=hcut
 clear hcut c0 c1 c2 c3 c4 JC
 generalize u3=V2 at *
 generalize wc=W2 at *
 obtain ⟨c0,c1,c2,c3,c4⟩:=HF.out _ HN.2.1
 go_upto_if 37 with fail
 clear c0 c1 c2 c3 c4
 obtain ⟨L2,hL2⟩:=qe (L1++rec1 b1 T1)
 obtain ⟨T2,hT2⟩:=qe ((78::tagsB S.tags))
 have JC:=hid (fun W (hW:Pure w W)=>J3.out W hW)
 rw [←hT2] at JC
 have HO2:=qh (ORw w 2 L2 V2 W2) (by rw [hL2];exact HN)
 clear HN
 obtain ⟨b2,hb2⟩:=qe ((decide (0<S.tags.length)))
 obtain ⟨c0,c1,c2,c3,c4⟩:=HF.out _ HO2.out.2.1
 go_cut [3] from 37 to 45 (fun v wx=>ORw w 3 (L2++rec1 b2 T2) v wx)
 case first =>
  cases hb' : b2
  ·have hb:(decide (0<S.tags.length))=false:=by rw [←hb2];exact hb'
   have hg:¬(0:Int)<(S.tags.length:Int):=by have:=of_decide_eq_false hb;omega
   have HE:=qh (ORw w 3 (L2++rec1 b2 T2) V2 W2) (by rw [rec1_f hb',List.append_nil];exact ⟨HO2.out.1,HO2.out.2.1,by have:=HO2.out.2.2;omega⟩)
   clear hb hb' hb2 hL2 hT2
   go_wp2
   go_meet
   case rel=>exact HE.out
  ·have hb:(decide (0<S.tags.length))=true:=by rw [←hb2];exact hb'
   have hg:(0:Int)<(S.tags.length:Int):=by have:=of_decide_eq_true hb;omega
   have hown:=HO2.out.1
   obtain ⟨av,cv,hVV⟩:=osd hown
   have Hb':=hid hb'
   clear hb hb' hb2 hL2 hT2 hown
   subst hVV
   go_wp2_with fail
   refine (JC.out _ HO2.out.2.1).mono ?_
   rintro e w5 ⟨rfl,hp5⟩
   have Hq:=hid hp5
   clear hp5
   have hle:=HO2.out.2.2
   go_wp2_with (at_builtin;refine wpList_append_own _ rfl _ _ 61 rfl w.heap.size 9 i0 (.string ⟨#[]⟩) 1 16 Tryz.underlying61 hi hz0 hz1 hz2 rfl qd (.slice av L2.length cv) L2.length (svs L2) rfl ((own_pure HO2.out.1 Hq.out).alloc _) ⟨w5.heap.size,0,none⟩ 1 1 (svs [T2]) rfl rfl (str_lit_cells w5 T2) (svs_one _) (by unfold maxLen;omega) oe (by have:=(HO2.out.2.1.then_ Hq.out).size;simp;omega) ?_)
   intro v6 w6 hown6 hg6 _
   have HE:=qh (ORw w 3 (L2++rec1 b2 T2) v6 w6) (by rw [rec1_t Hb'.out];exact HO2.out.add Hq.out hown6 hg6 (Nat.le_refl _))
   clear hown6 hg6 hle
   go_wp2
   go_meet
   case rel=>exact HE.out
 case rest =>
 have HN:=hcut
 clear hcut c0 c1 c2 c3 c4 JC
 generalize u3=V3 at *
 generalize wc=W3 at *
 obtain ⟨c0,c1,c2,c3,c4⟩:=HF.out _ HN.2.1
 go_upto_if 51 with fail
 clear c0 c1 c2 c3 c4
 obtain ⟨L3,hL3⟩:=qe (L2++rec1 b2 T2)
 obtain ⟨T3,hT3⟩:=qe ((86::viewB S.view))
 have JC:=hid (fun W (hW:Pure w W)=>J4.out W hW)
 rw [←hT3] at JC
 have HO3:=qh (ORw w 3 L3 V3 W3) (by rw [hL3];exact HN)
 clear HN
 obtain ⟨b3,hb3⟩:=qe ((decide (0<S.view.length)))
 obtain ⟨c0,c1,c2,c3,c4⟩:=HF.out _ HO3.out.2.1
 go_cut [3] from 51 to 59 (fun v wx=>ORw w 4 (L3++rec1 b3 T3) v wx)
 case first =>
  cases hb' : b3
  ·have hb:(decide (0<S.view.length))=false:=by rw [←hb3];exact hb'
   have hg:¬(0:Int)<(S.view.length:Int):=by have:=of_decide_eq_false hb;omega
   have HE:=qh (ORw w 4 (L3++rec1 b3 T3) V3 W3) (by rw [rec1_f hb',List.append_nil];exact ⟨HO3.out.1,HO3.out.2.1,by have:=HO3.out.2.2;omega⟩)
   clear hb hb' hb3 hL3 hT3
   go_wp2
   go_meet
   case rel=>exact HE.out
  ·have hb:(decide (0<S.view.length))=true:=by rw [←hb3];exact hb'
   have hg:(0:Int)<(S.view.length:Int):=by have:=of_decide_eq_true hb;omega
   have hown:=HO3.out.1
   obtain ⟨av,cv,hVV⟩:=osd hown
   have Hb':=hid hb'
   clear hb hb' hb3 hL3 hT3 hown
   subst hVV
   go_wp2_with fail
   refine (JC.out _ HO3.out.2.1).mono ?_
   rintro e w5 ⟨rfl,hp5⟩
   have Hq:=hid hp5
   clear hp5
   have hle:=HO3.out.2.2
   go_wp2_with (at_builtin;refine wpList_append_own _ rfl _ _ 61 rfl w.heap.size 9 i0 (.string ⟨#[]⟩) 1 16 Tryz.underlying61 hi hz0 hz1 hz2 rfl qd (.slice av L3.length cv) L3.length (svs L3) rfl ((own_pure HO3.out.1 Hq.out).alloc _) ⟨w5.heap.size,0,none⟩ 1 1 (svs [T3]) rfl rfl (str_lit_cells w5 T3) (svs_one _) (by unfold maxLen;omega) oe (by have:=(HO3.out.2.1.then_ Hq.out).size;simp;omega) ?_)
   intro v6 w6 hown6 hg6 _
   have HE:=qh (ORw w 4 (L3++rec1 b3 T3) v6 w6) (by rw [rec1_t Hb'.out];exact HO3.out.add Hq.out hown6 hg6 (Nat.le_refl _))
   clear hown6 hg6 hle
   go_wp2
   go_meet
   case rel=>exact HE.out
 case rest =>
 have HN:=hcut
 clear hcut c0 c1 c2 c3 c4 JC
 generalize u3=V4 at *
 generalize wc=W4 at *
 obtain ⟨c0,c1,c2,c3,c4⟩:=HF.out _ HN.2.1
 go_upto_if 65 with fail
 clear c0 c1 c2 c3 c4
 obtain ⟨L4,hL4⟩:=qe (L3++rec1 b3 T3)
 obtain ⟨T4,hT4⟩:=qe ((72::holdsB S.holds))
 have JC:=hid (fun W (hW:Pure w W)=>J5.out W hW)
 rw [←hT4] at JC
 have HO4:=qh (ORw w 4 L4 V4 W4) (by rw [hL4];exact HN)
 clear HN
 obtain ⟨b4,hb4⟩:=qe ((decide (0<S.holds.length)))
 obtain ⟨c0,c1,c2,c3,c4⟩:=HF.out _ HO4.out.2.1
 go_cut [3] from 65 to 73 (fun v wx=>ORw w 5 (L4++rec1 b4 T4) v wx)
 case first =>
  cases hb' : b4
  ·have hb:(decide (0<S.holds.length))=false:=by rw [←hb4];exact hb'
   have hg:¬(0:Int)<(S.holds.length:Int):=by have:=of_decide_eq_false hb;omega
   have HE:=qh (ORw w 5 (L4++rec1 b4 T4) V4 W4) (by rw [rec1_f hb',List.append_nil];exact ⟨HO4.out.1,HO4.out.2.1,by have:=HO4.out.2.2;omega⟩)
   clear hb hb' hb4 hL4 hT4
   go_wp2
   go_meet
   case rel=>exact HE.out
  ·have hb:(decide (0<S.holds.length))=true:=by rw [←hb4];exact hb'
   have hg:(0:Int)<(S.holds.length:Int):=by have:=of_decide_eq_true hb;omega
   have hown:=HO4.out.1
   obtain ⟨av,cv,hVV⟩:=osd hown
   have Hb':=hid hb'
   clear hb hb' hb4 hL4 hT4 hown
   subst hVV
   go_wp2_with fail
   refine (JC.out _ HO4.out.2.1).mono ?_
   rintro e w5 ⟨rfl,hp5⟩
   have Hq:=hid hp5
   clear hp5
   have hle:=HO4.out.2.2
   go_wp2_with (at_builtin;refine wpList_append_own _ rfl _ _ 61 rfl w.heap.size 9 i0 (.string ⟨#[]⟩) 1 16 Tryz.underlying61 hi hz0 hz1 hz2 rfl qd (.slice av L4.length cv) L4.length (svs L4) rfl ((own_pure HO4.out.1 Hq.out).alloc _) ⟨w5.heap.size,0,none⟩ 1 1 (svs [T4]) rfl rfl (str_lit_cells w5 T4) (svs_one _) (by unfold maxLen;omega) oe (by have:=(HO4.out.2.1.then_ Hq.out).size;simp;omega) ?_)
   intro v6 w6 hown6 hg6 _
   have HE:=qh (ORw w 5 (L4++rec1 b4 T4) v6 w6) (by rw [rec1_t Hb'.out];exact HO4.out.add Hq.out hown6 hg6 (Nat.le_refl _))
   clear hown6 hg6 hle
   go_wp2
   go_meet
   case rel=>exact HE.out
 case rest =>
 have HN:=hcut
 clear hcut c0 c1 c2 c3 c4 JC
 generalize u3=V5 at *
 generalize wc=W5 at *
 obtain ⟨c0,c1,c2,c3,c4⟩:=HF.out _ HN.2.1
 have H0:=qh (ORw w 5 (srecN S 0) V5 W5) (by
  have e:srecN S 0=L4++rec1 b4 T4:=by
   unfold srecN srec0
   rw [hL4,hL3,hL2,hL1,hL0,hT0,hT1,hT2,hT3,hT4,hb0,hb1,hb2,hb3,hb4]
   simp
  rw [e];exact HN)
 clear HN hL4 hL3 hL2 hL1 hL0 hT0 hT1 hT2 hT3 hT4 hb0 hb1 hb2 hb3 hb4 HO0 HO1 HO2 HO3 HO4 J1 J2 J3 J4 J5
 clear c0 c1 c2 c3 c4
 go_wp2_with fail
 go_loopw [3,4] (fun v i wr=>∃k:Nat,k≤16∧i=.int .i64 k∧ORw w (5+k) (srecN S k) v wr) (fun _ i _=>16-(RowKit.intOf i).toNat)
 case atStart=>exact ⟨0,by omega,rfl,H0.out⟩
 case round =>
  obtain ⟨k,hk,rfl,hO⟩:=hrel
  have HO:=hid hO
  clear hO H0
  by_cases hlt:k<16
  ·have hlt' : (k:Int)<16:=by omega
   have hp0:¬(k:Int)<0:=by omega
   have hp16:¬(16:Int)≤(k:Int):=by omega
   have hpn:(0:Int)≤(k:Int):=by omega
   obtain ⟨v0,v1,v2,e0,e1,e2,hgr,-,-,-⟩:=HR.out.bag k hlt
   have Hbn:=hid (Hok.out.bag k)
   have Hsucc:=hid (srecN_succ S k)
   have hlen:=HO.out.2.2
   unfold brec at Hsucc
   generalize S.bags.getD k nb=g at *
   obtain ⟨a0,z0,rfl⟩:=hgr.1.shape
   obtain ⟨a1,z1,rfl⟩:=hgr.2.1.shape
   obtain ⟨a2,z2,rfl⟩:=hgr.2.2.shape
   have HG:=hid (fun W (hW:Pure w W)=>(show W.cell? ⟨n,2+k*3,none⟩=some (.slice a0 g.1.length z0)∧W.cell? ⟨n,2+k*3+1,none⟩=some (.slice a1 g.2.1.length z1)∧W.cell? ⟨n,2+k*3+2,none⟩=some (.slice a2 g.2.2.length z2) from
    ⟨((HA.out.pure hW).at2 (j':=2+k*3) e0 oe).1,((HA.out.pure hW).at2 (j':=2+k*3+1) e1 oe).1,((HA.out.pure hW).at2 (j':=2+k*3+2) e2 oe).1⟩))
   have Hsm:=hid (fun W (hW:Pure w W)=>rbsame_any _ _ g nb W (hgr.pure hW).at (BR3.nil W).at)
   have Hjn:=hid (fun W (hW:Pure w W)=>rjoined_any k _ _ _ g m W (hgr.pure hW) Hbn.out hmx oe)
   clear hgr e0 e1 e2
   generalize g.1.length=l0 at *
   generalize g.2.1.length=l1 at *
   generalize g.2.2.length=l2 at *
   generalize 66::(num k++bagB g)=T at *
   obtain ⟨LN,hLN⟩:=qe (srecN S (k+1))
   rw [←hLN] at Hsucc
   have HLN:=hid hLN
   clear hLN
   generalize srecN S k=L at *
   obtain ⟨q0,q1,q2⟩:=HG.out wr HO.out.2.1
   have hown:=HO.out.1
   obtain ⟨av,cv,rfl⟩:=osd hown
   clear hown
   go_wp2_with fail
   refine (Hsm.out _ HO.out.2.1).mono ?_
   rintro e w4 ⟨rfl,hp4⟩
   have H4:=hid hp4
   clear hp4 q0 q1 q2
   by_cases hg:g=nb
   ·have hd:decide (g=nb)=true:=decide_eq_true hg
    rw [hd] at Hsucc ⊢
    have HE:=qh (ORw w (5+(k+1)) LN (.slice av L.length cv) w4) (by
     rw [Hsucc.out]
     exact ⟨by have:=own_pure HO.out.1 H4.out;simpa [rec1] using this,HO.out.2.1.then_ H4.out,by have:=HO.out.2.2;simp [rec1];omega⟩)
    clear hd hg Hsucc hlen Hsm Hjn HG HO
    go_wp2
    go_roundw
    case rel=>exact ⟨k+1,by omega,by go_num,by rw [←HLN.out];exact HE.out⟩
    case measure=>simp [RowKit.intOf];omega
   ·have hd:decide (g=nb)=false:=decide_eq_false hg
    rw [hd] at Hsucc ⊢
    have P4:=hid (HO.out.2.1.then_ H4.out)
    obtain ⟨q0,q1,q2⟩:=HG.out w4 P4.out
    clear hd hg
    go_wp2_with fail
    refine (Hjn.out _ P4.out).mono ?_
    rintro e w5 ⟨rfl,hp5⟩
    have Hq:=hid (H4.out.then_ hp5)
    clear hp5 q0 q1 q2
    go_wp2_with (at_builtin;refine wpList_append_own _ rfl _ _ 61 rfl w.heap.size 9 i0 (.string ⟨#[]⟩) 1 16 Tryz.underlying61 hi hz0 hz1 hz2 rfl qd (.slice av L.length cv) L.length (svs L) rfl ((own_pure HO.out.1 Hq.out).alloc _) ⟨w5.heap.size,0,none⟩ 1 1 (svs [T]) rfl rfl (str_lit_cells w5 T) (svs_one _) (by unfold maxLen;omega) oe (by have:=(HO.out.2.1.then_ Hq.out).size;simp;omega) ?_)
    intro v6 w6 hown6 hg6 _
    have HE:=qh (ORw w (5+(k+1)) LN v6 w6) (by
     rw [Hsucc.out]
     exact HO.out.add Hq.out hown6 hg6 oe)
    clear hown6 hg6 hlen Hsucc Hsm Hjn HG HO
    go_wp2
    go_roundw
    case rel=>exact ⟨k+1,by omega,by go_num,by rw [←HLN.out];exact HE.out⟩
    case measure=>simp [RowKit.intOf];omega
  ·have hlt' : ¬(k:Int)<16:=by omega
   obtain rfl:k=16:=by omega
   have HO':=qh (ORw w 21 (srecs S) _ wr) (HO.out)
   clear hlt HO
   generalize srecs S=L at *
   go_wp2
   go_ret
   exact ⟨_,rfl,HO'.out.1,HO'.out.2.1⟩
end
section
set_option maxHeartbeats 16000000
set_option maxRecDepth 20000
open Go.RowKit Go.Maps Go.Shelf
theorem St.id_any {n:Nat} {S:SD} {w:World} (h:St n S w):Calls Tryz.prog 35 #[.pointer (some ⟨n,0,none⟩)] w fun e w'=>e=.returned (.int .i64 S.id)∧Pure w w':=by
 obtain ⟨r,h1,_⟩:=h;exact sid_any n S.id S.up r w h1
theorem St.up_any {n:Nat} {S:SD} {w:World} (h:St n S w):Calls Tryz.prog 36 #[.pointer (some ⟨n,0,none⟩)] w fun e w'=>e=.returned (.int .i64 S.up)∧Pure w w':=by
 obtain ⟨r,h1,_⟩:=h;exact supto_any n S.id S.up r w h1
theorem rbsame_same (v u:Value) (g:Bag) (w:World) (hg:BagAt w v g) (hh:BagAt w u g) :
 Calls Tryz.prog 78 #[v,u] w fun e w'=>e=.returned (.bool true)∧Pure w w' :=
 (rbsame_any v u g g w hg hh).mono fun _ _ h=>⟨by rw [h.1,decide_eq_true rfl],h.2⟩
theorem rstexts_same (v u:Value) (l:List (List UInt8)) (w:World) (hv:Strs w v l) (hu:Strs w u l) :
 Calls Tryz.prog 32 #[v,u] w fun e w'=>e=.returned (.bool true)∧Pure w w' :=
 (rstexts_any v u l l w hv hu).mono fun _ _ h=>⟨by rw [h.1,decide_eq_true rfl],h.2⟩
theorem same19_any (n nr q M:Nat) (S:SD) (w:World) (hs:St n S w) (hr:RSt2 nr q S w) (ok:SOk M S) (hM:M≤3000) :
 Calls Tryz.prog 34 #[.pointer (some ⟨n,0,none⟩),.pointer (some ⟨nr,0,none⟩)] w fun e w'=>e=.returned (.bool true)∧Pure w w':=by
 have Hs:=hid hs
 have Hr:=hid hr
 have Ok:=hid ok
 obtain ⟨r,hA,hR⟩:=hr.rat
 obtain ⟨vt,et,ht,-⟩:=hR.tags
 obtain ⟨vv,ev,hv,-⟩:=hR.view
 obtain ⟨vh,eh,hh,-⟩:=hR.holds
 have HA:=hid hA
 have HR:=hid hR
 have HF:=hid (fun W (hW:Pure w W)=>(show W.cell? ⟨nr,0,none⟩=some (.int .i64 S.id)∧W.cell? ⟨nr,1,none⟩=some (.int .i64 S.up)∧W.cell? ⟨nr,50,none⟩=some vt∧W.cell? ⟨nr,51,none⟩=some vv∧W.cell? ⟨nr,52,none⟩=some vh from
  ⟨(HA.out.pure hW).cells.1,(HA.out.pure hW).cells.2.1,((HA.out.pure hW).at2 (j':=50) et rfl).1,((HA.out.pure hW).at2 (j':=51) ev rfl).1,((HA.out.pure hW).at2 (j':=52) eh rfl).1⟩))
 have Ht:=hid (fun W (hW:Pure w W)=>(show Tags W vt S.tags from Row.pure ht hW))
 have Hv:=hid (fun W (hW:Pure w W)=>(show Peers W vv S.view from Row.pure hv hW))
 have Hh:=hid (fun W (hW:Pure w W)=>(show Holds W vh S.holds from Row.pure hh hW))
 have hMM:=hM
 clear hA hR ht hv hh et ev eh ok hs hr hM
 go_enter Tryz.func34,Tryz.ntmps34
 go_wp2_with fail
 go_loopw [5] (fun i wr=>∃p:Int,-1≤p∧p≤17∧i=.int .i64 p∧Pure w wr) (fun i _=>(17-RowKit.intOf i).toNat)
 case atStart=>exact ⟨-1,by omega,by omega,rfl,Below.refl _ _⟩
 case round =>
  obtain ⟨p,hp0,hp17,rfl,hpr⟩:=hrel
  have Hpr:=hid hpr
  clear hpr
  have hc:p=-1∨(0≤p∧p<16)∨p=16∨p=17:=by omega
  rcases hc with rfl|⟨hc0,hc1⟩|rfl|rfl
  ·obtain ⟨Y0,hY0⟩ : ∃y,y=Value.slice none 0 0:=⟨_,rfl⟩
   have HY0:=hid hY0
   clear hY0
   go_upto_region 7 with fail
   obtain ⟨Y1,Y2,hY1,hY2⟩ : ∃y z,y=Value.slice none 0 0∧z=Value.slice none 0 0:=⟨_,_,rfl,rfl⟩
   have HY1:=hid hY1
   have HY2:=hid hY2
   clear hY1 hY2
   obtain ⟨wz,hwz⟩:=qe (wr.alloc (.cells #[Y0,Y1,Y2] 34))
   have hwz' : wr.alloc (.cells #[.slice none 0 0,.slice none 0 0,.slice none 0 0] 34)=wz:=by rw [hwz,HY0.out,HY1.out,HY2.out]
   have hb:=hid (fun W (hW:Pure wz W)=>sbag_out n (-1) W oe)
   have hsm:=hid (fun W=>(show Calls _ _ #[.agg #[.slice none 0 0,.slice none 0 0,.slice none 0 0],.agg #[Y0,Y1,Y2]] W _ from by rw [HY0.out,HY1.out,HY2.out];exact rbsame_same _ _ nb W (BR3.nil W).at (BR3.nil W).at))
   rw [hwz']
   clear hwz'
   have Hz:=qh (Pure w wz) (by rw [hwz];exact Hpr.out.alloc Hpr.out.size _)
   have Hbx:=qh (wz.heap[wr.heap.size]?=some (.cells #[Y0,Y1,Y2] 34 (0,0))) (by rw [hwz];exact ban _ _)
   clear hwz
   have hS:Hid (∀W,Pure wz W→(W.cell? ⟨wr.heap.size,0,none⟩=some Y0∧W.cell? ⟨wr.heap.size,1,none⟩=some Y1∧W.cell? ⟨wr.heap.size,2,none⟩=some Y2∧Pure wz W)):=fun W hW=>by
    have e:=(hW.block _ (lob Hbx.out)).trans Hbx.out
    exact ⟨cob e 0,cob e 1,cob e 2,hW⟩
   have hst:=hid (hS.out wz.drew qv)
   generalize wr.heap.size=bx at *
   refine wp_region_held_drew (S:=(fun W=>W.cell? ⟨bx,0,none⟩=some Y0∧W.cell? ⟨bx,1,none⟩=some Y1∧W.cell? ⟨bx,2,none⟩=some Y2∧Pure wz W)) qk ?_ (fun hHeld=>?_)
   ·first|with_reducible exact hst.out|with_reducible exact hS.out _ (Pure.then_ hHeld.2.2.2 qa)
   refine tkA 0 ?_
   refine tkA 1 ?_
   refine tkA 3 ?_
   refine tkC 2 fun K hK=>?_
   go_simp
   go_at_call 13;refine (hb.out _ hHeld.2.2.2).mono ?_;rintro e z ⟨rfl,hp8⟩
   refine hK.out _ _ (by first|with_reducible exact hst.out|with_reducible exact hS.out _ (Pure.then_ hHeld.2.2.2 qa)) fun hHeld=>?_
   clear hK K
   refine tkC 4 fun K hK=>?_
   go_simp
   go_at_call 78;refine (hsm.out _).mono ?_;rintro e z2 ⟨rfl,hp9⟩
   refine hK.out _ _ (by first|with_reducible exact hst.out|with_reducible exact hS.out _ (Pure.then_ hHeld.2.2.2 qa)) fun hHeld=>?_
   clear hK K
   refine tkA 5 ?_
   refine wpAnyH_done qk ?_ _
   have hfin:=hHeld.2.2.2
   have HP:=hid (Hz.out.then_ hfin)
   clear hHeld hfin hst hS hp8 hp9
   go_wp2
   go_roundw
   case rel=>exact ⟨0,by omega,by omega,by go_num,HP.out⟩
   case measure=>first|(simp [RowKit.intOf];done)|(simp [RowKit.intOf];omega)
  ·obtain ⟨k,rfl⟩ : ∃k:Nat,p=(k:Int):=⟨p.toNat,by omega⟩
   have hlt:k<16:=by omega
   have hlt' : (k:Int)<16:=hc1
   have hg0:¬(k:Int)<0:=by omega
   have hg16:¬(16:Int)≤(k:Int):=by omega
   have hle:(k:Int)≤16:=by omega
   obtain ⟨v0,v1,v2,e0,e1,e2,hgr,-,-,-⟩:=HR.out.bag k hlt
   have Hbn:=hid (Ok.out.bag k)
   have Hb:=hid (fun W (hW:Pure w W)=>sbag_any n k M S W (Hs.out.pure hW) hlt Hbn.out hMM)
   generalize S.bags.getD k nb=g at *
   obtain ⟨a0,z0,rfl⟩:=hgr.1.shape
   obtain ⟨a1,z1,rfl⟩:=hgr.2.1.shape
   obtain ⟨a2,z2,rfl⟩:=hgr.2.2.shape
   have HG:=hid (fun W (hW:Pure w W)=>(show W.cell? ⟨nr,2+k*3,none⟩=some (.slice a0 g.1.length z0)∧W.cell? ⟨nr,2+k*3+1,none⟩=some (.slice a1 g.2.1.length z1)∧W.cell? ⟨nr,2+k*3+2,none⟩=some (.slice a2 g.2.2.length z2) from
    ⟨((HA.out.pure hW).at2 (j':=2+k*3) e0 oe).1,((HA.out.pure hW).at2 (j':=2+k*3+1) e1 oe).1,((HA.out.pure hW).at2 (j':=2+k*3+2) e2 oe).1⟩))
   have hgg:=hid hgr
   clear hgr e0 e1 e2
   obtain ⟨q0,q1,q2⟩:=HG.out wr Hpr.out
   obtain ⟨q3,q4,q5⟩:=HG.out (wr.alloc (.cells #[.slice none 0 0,.slice none 0 0,.slice none 0 0] 34)) (Hpr.out.alloc Hpr.out.size _)
   go_upto_region 7 with fail
   clear q0 q1 q2 q3 q4 q5
   obtain ⟨wz,hwz⟩:=qe (wr.alloc (.cells #[.slice a0 g.1.length z0,.slice a1 g.2.1.length z1,.slice a2 g.2.2.length z2] 34))
   have hwz' : wr.alloc (.cells #[.slice a0 g.1.length z0,.slice a1 g.2.1.length z1,.slice a2 g.2.2.length z2] 34)=wz:=hwz.symm
   rw [hwz']
   clear hwz'
   have hsm:=hid (fun (b:Bag) (x0 x1 x2:Value) W (hx:BR3 x0 x1 x2 g W) (hW:Pure w W)=>rbsame_same _ _ g W hx.at (hgg.out.pure hW).at)
   generalize Value.slice a0 g.1.length z0=Y0 at *
   generalize Value.slice a1 g.2.1.length z1=Y1 at *
   generalize Value.slice a2 g.2.2.length z2=Y2 at *
   have Hz:=qh (Pure w wz) (by rw [hwz];exact Hpr.out.alloc Hpr.out.size _)
   have Hbx:=qh (wz.heap[wr.heap.size]?=some (.cells #[Y0,Y1,Y2] 34 (0,0))) (by rw [hwz];exact ban _ _)
   clear hwz
   have hS:Hid (∀W,Pure wz W→(W.cell? ⟨wr.heap.size,0,none⟩=some Y0∧W.cell? ⟨wr.heap.size,1,none⟩=some Y1∧W.cell? ⟨wr.heap.size,2,none⟩=some Y2∧Pure wz W)):=fun W hW=>by
    have e:=(hW.block _ (lob Hbx.out)).trans Hbx.out
    exact ⟨cob e 0,cob e 1,cob e 2,hW⟩
   have hst:=hid (hS.out wz.drew qv)
   generalize wr.heap.size=bx at *
   refine wp_region_held_drew (S:=(fun W=>W.cell? ⟨bx,0,none⟩=some Y0∧W.cell? ⟨bx,1,none⟩=some Y1∧W.cell? ⟨bx,2,none⟩=some Y2∧Pure wz W)) qk ?_ (fun hHeld=>?_)
   ·first|with_reducible exact hst.out|with_reducible exact hS.out _ (Pure.then_ hHeld.2.2.2 qa)
   refine tkA 0 ?_
   refine tkA 1 ?_
   refine tkA 3 ?_
   refine tkC 2 fun K hK=>?_
   go_simp
   go_at_call 13;refine (Hb.out _ (Hz.out.then_ hHeld.2.2.2)).mono ?_;rintro e z ⟨x0,x1,x2,rfl,hr3,hp8,hf⟩
   refine hK.out _ _ (by first|with_reducible exact hst.out|with_reducible exact hS.out _ (Pure.then_ hHeld.2.2.2 qa)) fun hHeld=>?_
   clear hK K
   refine tkC 4 fun K hK=>?_
   go_simp
   go_at_call 78;refine (hsm.out g x0 x1 x2 _ hr3 (Hz.out.then_ hHeld.2.2.2)).mono ?_;rintro e z2 ⟨rfl,hp9⟩
   refine hK.out _ _ (by first|with_reducible exact hst.out|with_reducible exact hS.out _ (Pure.then_ hHeld.2.2.2 qa)) fun hHeld=>?_
   clear hK K
   refine tkA 5 ?_
   refine wpAnyH_done qk ?_ _
   clear hr3 hf
   have hfin:=hHeld.2.2.2
   have HP:=hid (Hz.out.then_ hfin)
   clear hHeld hfin hst hS hp8 hp9
   go_wp2
   go_roundw
   case rel=>exact ⟨(k:Int)+1,by omega,by omega,by go_num,HP.out⟩
   case measure=>first|(simp [RowKit.intOf];done)|(simp [RowKit.intOf];omega)
  ·obtain ⟨Y0,hY0⟩ : ∃y,y=Value.slice none 0 0:=⟨_,rfl⟩
   have HY0:=hid hY0
   clear hY0
   go_upto_region 7 with fail
   obtain ⟨Y1,Y2,hY1,hY2⟩ : ∃y z,y=Value.slice none 0 0∧z=Value.slice none 0 0:=⟨_,_,rfl,rfl⟩
   have HY1:=hid hY1
   have HY2:=hid hY2
   clear hY1 hY2
   obtain ⟨wz,hwz⟩:=qe (wr.alloc (.cells #[Y0,Y1,Y2] 34))
   have hwz' : wr.alloc (.cells #[.slice none 0 0,.slice none 0 0,.slice none 0 0] 34)=wz:=by rw [hwz,HY0.out,HY1.out,HY2.out]
   have hb:=hid (fun W (hW:Pure wz W)=>sbag_out n (16) W oe)
   have hsm:=hid (fun W=>(show Calls _ _ #[.agg #[.slice none 0 0,.slice none 0 0,.slice none 0 0],.agg #[Y0,Y1,Y2]] W _ from by rw [HY0.out,HY1.out,HY2.out];exact rbsame_same _ _ nb W (BR3.nil W).at (BR3.nil W).at))
   rw [hwz']
   clear hwz'
   have Hz:=qh (Pure w wz) (by rw [hwz];exact Hpr.out.alloc Hpr.out.size _)
   have Hbx:=qh (wz.heap[wr.heap.size]?=some (.cells #[Y0,Y1,Y2] 34 (0,0))) (by rw [hwz];exact ban _ _)
   clear hwz
   have hS:Hid (∀W,Pure wz W→(W.cell? ⟨wr.heap.size,0,none⟩=some Y0∧W.cell? ⟨wr.heap.size,1,none⟩=some Y1∧W.cell? ⟨wr.heap.size,2,none⟩=some Y2∧Pure wz W)):=fun W hW=>by
    have e:=(hW.block _ (lob Hbx.out)).trans Hbx.out
    exact ⟨cob e 0,cob e 1,cob e 2,hW⟩
   have hst:=hid (hS.out wz.drew qv)
   generalize wr.heap.size=bx at *
   refine wp_region_held_drew (S:=(fun W=>W.cell? ⟨bx,0,none⟩=some Y0∧W.cell? ⟨bx,1,none⟩=some Y1∧W.cell? ⟨bx,2,none⟩=some Y2∧Pure wz W)) qk ?_ (fun hHeld=>?_)
   ·first|with_reducible exact hst.out|with_reducible exact hS.out _ (Pure.then_ hHeld.2.2.2 qa)
   refine tkA 0 ?_
   refine tkA 1 ?_
   refine tkA 3 ?_
   refine tkC 2 fun K hK=>?_
   go_simp
   go_at_call 13;refine (hb.out _ hHeld.2.2.2).mono ?_;rintro e z ⟨rfl,hp8⟩
   refine hK.out _ _ (by first|with_reducible exact hst.out|with_reducible exact hS.out _ (Pure.then_ hHeld.2.2.2 qa)) fun hHeld=>?_
   clear hK K
   refine tkC 4 fun K hK=>?_
   go_simp
   go_at_call 78;refine (hsm.out _).mono ?_;rintro e z2 ⟨rfl,hp9⟩
   refine hK.out _ _ (by first|with_reducible exact hst.out|with_reducible exact hS.out _ (Pure.then_ hHeld.2.2.2 qa)) fun hHeld=>?_
   clear hK K
   refine tkA 5 ?_
   refine wpAnyH_done qk ?_ _
   have hfin:=hHeld.2.2.2
   have HP:=hid (Hz.out.then_ hfin)
   clear hHeld hfin hst hS hp8 hp9
   go_wp2
   go_roundw
   case rel=>exact ⟨17,by omega,by omega,by go_num,HP.out⟩
   case measure=>first|(simp [RowKit.intOf];done)|(simp [RowKit.intOf];omega)
  ·go_upto_region 10 with fail
   have hS:Hid (∀W,Pure w W→(W.cell? ⟨nr,0,none⟩=some (.int .i64 S.id)∧W.cell? ⟨nr,1,none⟩=some (.int .i64 S.up)∧W.cell? ⟨nr,50,none⟩=some vt∧W.cell? ⟨nr,51,none⟩=some vv∧W.cell? ⟨nr,52,none⟩=some vh∧Pure w W)):=fun W hW=>by
    obtain ⟨c0,c1,c2,c3,c4⟩:=HF.out W hW
    exact ⟨c0,c1,c2,c3,c4,hW⟩
   have hst:=hid (hS.out wr.drew Hpr.out.drew)
   refine wp_region_held_drew (S:=(fun W=>W.cell? ⟨nr,0,none⟩=some (.int .i64 S.id)∧W.cell? ⟨nr,1,none⟩=some (.int .i64 S.up)∧W.cell? ⟨nr,50,none⟩=some vt∧W.cell? ⟨nr,51,none⟩=some vv∧W.cell? ⟨nr,52,none⟩=some vh∧Pure w W)) qk ?_ (fun hHeld=>?_)
   ·first|with_reducible exact hst.out|with_reducible exact hS.out _ (Pure.then_ hHeld.2.2.2.2.2 qa)
   refine tkA 0 ?_
   refine tkA 2 ?_
   refine tkA 3 ?_
   refine tkA 4 ?_
   refine tkA 5 ?_
   refine tkC 1 fun K hK=>?_
   go_simp
   go_at_call 37;refine (stags_any n S _ (Hs.out.pure hHeld.2.2.2.2.2) Ok.out.tags).mono ?_;rintro e z0 ⟨x0,rfl,hr3,hp8⟩
   refine hK.out _ _ (by first|with_reducible exact hst.out|with_reducible exact hS.out _ (Pure.then_ hHeld.2.2.2.2.2 qa)) fun hHeld=>?_
   clear hK K
   refine tkC 6 fun K hK=>?_
   go_simp
   go_at_call 79;refine (rtsame_same _ _ _ _ hr3 (Ht.out _ hHeld.2.2.2.2.2)).mono ?_;rintro e y0 ⟨rfl,hp9⟩
   refine hK.out _ _ (by first|with_reducible exact hst.out|with_reducible exact hS.out _ (Pure.then_ hHeld.2.2.2.2.2 qa)) fun hHeld=>?_
   clear hK K
   refine tkA 7 ?_
   refine wpAnyH_done qk ?_ _
   have HP0:=hid hHeld.2.2.2.2.2
   clear hHeld hst hp8 hp9 hr3
   go_upto_region 11 with fail
   have hst:=hid (hS.out _ HP0.out.drew)
   refine wp_region_held_drew (S:=(fun W=>W.cell? ⟨nr,0,none⟩=some (.int .i64 S.id)∧W.cell? ⟨nr,1,none⟩=some (.int .i64 S.up)∧W.cell? ⟨nr,50,none⟩=some vt∧W.cell? ⟨nr,51,none⟩=some vv∧W.cell? ⟨nr,52,none⟩=some vh∧Pure w W)) qk ?_ (fun hHeld=>?_)
   ·first|with_reducible exact hst.out|with_reducible exact hS.out _ (Pure.then_ hHeld.2.2.2.2.2 qa)
   refine tkA 0 ?_
   refine tkA 2 ?_
   refine tkA 3 ?_
   refine tkA 4 ?_
   refine tkA 5 ?_
   refine tkC 1 fun K hK=>?_
   go_simp
   go_at_call 38;refine (sview_any n S _ (Hs.out.pure hHeld.2.2.2.2.2) Ok.out.view).mono ?_;rintro e z1 ⟨x1,rfl,hr3,hp8⟩
   refine hK.out _ _ (by first|with_reducible exact hst.out|with_reducible exact hS.out _ (Pure.then_ hHeld.2.2.2.2.2 qa)) fun hHeld=>?_
   clear hK K
   refine tkC 6 fun K hK=>?_
   go_simp
   go_at_call 80;refine (rvsame_same _ _ _ _ hr3 (Hv.out _ hHeld.2.2.2.2.2)).mono ?_;rintro e y1 ⟨rfl,hp9⟩
   refine hK.out _ _ (by first|with_reducible exact hst.out|with_reducible exact hS.out _ (Pure.then_ hHeld.2.2.2.2.2 qa)) fun hHeld=>?_
   clear hK K
   refine tkA 7 ?_
   refine wpAnyH_done qk ?_ _
   have HP1:=hid hHeld.2.2.2.2.2
   clear hHeld hst hp8 hp9 hr3
   go_upto_region 12 with fail
   have hst:=hid (hS.out _ HP1.out.drew)
   refine wp_region_held_drew (S:=(fun W=>W.cell? ⟨nr,0,none⟩=some (.int .i64 S.id)∧W.cell? ⟨nr,1,none⟩=some (.int .i64 S.up)∧W.cell? ⟨nr,50,none⟩=some vt∧W.cell? ⟨nr,51,none⟩=some vv∧W.cell? ⟨nr,52,none⟩=some vh∧Pure w W)) qk ?_ (fun hHeld=>?_)
   ·first|with_reducible exact hst.out|with_reducible exact hS.out _ (Pure.then_ hHeld.2.2.2.2.2 qa)
   refine tkA 0 ?_
   refine tkA 2 ?_
   refine tkA 3 ?_
   refine tkA 4 ?_
   refine tkA 5 ?_
   refine tkC 1 fun K hK=>?_
   go_simp
   go_at_call 39;refine (sholds_any n S _ (Hs.out.pure hHeld.2.2.2.2.2) Ok.out.holds).mono ?_;rintro e z2 ⟨x2,rfl,hr3,hp8⟩
   refine hK.out _ _ (by first|with_reducible exact hst.out|with_reducible exact hS.out _ (Pure.then_ hHeld.2.2.2.2.2 qa)) fun hHeld=>?_
   clear hK K
   refine tkC 6 fun K hK=>?_
   go_simp
   go_at_call 81;refine (rhsame_same _ _ _ _ hr3 (Hh.out _ hHeld.2.2.2.2.2)).mono ?_;rintro e y2 ⟨rfl,hp9⟩
   refine hK.out _ _ (by first|with_reducible exact hst.out|with_reducible exact hS.out _ (Pure.then_ hHeld.2.2.2.2.2 qa)) fun hHeld=>?_
   clear hK K
   refine tkA 7 ?_
   refine wpAnyH_done qk ?_ _
   have HP2:=hid hHeld.2.2.2.2.2
   clear hHeld hst hp8 hp9 hr3
   skip
   skip
   go_wp2_with fail
   refine (srecs_any n S M _ (Hs.out.pure HP2.out) Ok.out oe).mono ?_
   rintro e w5 ⟨u5,rfl,hown5,hp5⟩
   have HP5:=hid (HP2.out.then_ hp5)
   have HO5:=qh (Strs w5 u5 (srecs S)) (Row.of_own hown5)
   clear hown5 hp5
   go_wp2_with fail
   refine (rrecs_any nr S M q _ (Hr.out.pure HP5.out) Ok.out oe).mono ?_
   rintro e w6 ⟨u6,rfl,hown6,hp6⟩
   have HP6:=hid (HP5.out.then_ hp6)
   have HO6:=qh (Strs w6 u6 (srecs S)) (Row.of_own hown6)
   have HO7:=qh (Strs w6 u5 (srecs S)) (Row.pure HO5.out hp6)
   clear hown6 hp6
   go_wp2_with fail
   refine (rstexts_same _ _ _ _ HO7.out HO6.out).mono ?_
   rintro e w7 ⟨rfl,hp7⟩
   have HP7:=hid (HP6.out.then_ hp7)
   clear hp7
   go_upto_region 14 with fail
   have hst:=hid (hS.out _ HP7.out.drew)
   refine wp_region_held_drew (S:=(fun W=>W.cell? ⟨nr,0,none⟩=some (.int .i64 S.id)∧W.cell? ⟨nr,1,none⟩=some (.int .i64 S.up)∧W.cell? ⟨nr,50,none⟩=some vt∧W.cell? ⟨nr,51,none⟩=some vv∧W.cell? ⟨nr,52,none⟩=some vh∧Pure w W)) qk ?_ (fun hHeld=>?_)
   ·first|with_reducible exact hst.out|with_reducible exact hS.out _ (Pure.then_ hHeld.2.2.2.2.2 qa)
   refine tkA 0 ?_
   refine tkA 1 ?_
   refine tkA 2 ?_
   refine tkA 3 ?_
   refine tkA 4 ?_
   refine tkA 5 ?_
   refine tkA 6 ?_
   refine tkA 7 ?_
   refine tkA 8 ?_
   refine tkA 9 ?_
   refine tkA 10 ?_
   refine tkA 11 ?_
   refine tkA 13 ?_
   refine tkA 14 ?_
   refine tkA 15 ?_
   refine tkA 16 ?_
   refine tkC 12 fun K hK=>?_
   go_simp
   go_at_call 35;refine (St.id_any (Hs.out.pure hHeld.2.2.2.2.2)).mono ?_;rintro e z8 ⟨rfl,hp8⟩
   refine hK.out _ _ (by first|with_reducible exact hst.out|with_reducible exact hS.out _ (Pure.then_ hHeld.2.2.2.2.2 qa)) fun hHeld=>?_
   clear hK K
   refine tkA 17 ?_
   refine tkA 18 ?_
   refine tkA 19 ?_
   refine tkA 20 ?_
   refine tkA 22 ?_
   refine tkA 23 ?_
   refine tkA 24 ?_
   refine tkA 25 ?_
   refine tkC 21 fun K hK=>?_
   go_simp
   go_at_call 36;refine (St.up_any (Hs.out.pure hHeld.2.2.2.2.2)).mono ?_;rintro e z9 ⟨rfl,hp9⟩
   refine hK.out _ _ (by first|with_reducible exact hst.out|with_reducible exact hS.out _ (Pure.then_ hHeld.2.2.2.2.2 qa)) fun hHeld=>?_
   clear hK K
   refine tkA 26 ?_
   refine tkA 27 ?_
   refine tkA 28 ?_
   refine wpAnyH_done qk ?_ _
   have HP8:=hid hHeld.2.2.2.2.2
   clear hHeld hst hp8 hp9
   go_wp2
   go_ret
   exact ⟨rfl,HP8.out⟩
end
end Go.Proofs.YtdlpnhfgjficgaaGreat
