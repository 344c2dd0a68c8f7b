import Derived.Test.YtdlpnhfgjficgaaGreatMVv
import Derived.Test.YtdlpnhfgjficgaaGreatMTx
import Derived.Test.YtdlpnhfgjficgaaGreatMRg
set_option maxHeartbeats 8000000
set_option maxRecDepth 8000
namespace Go.Proofs.YtdlpnhfgjficgaaGreat
open Go.RowKit Go.Maps Go.Shelf
theorem receipt_any (n:Int) (w:World):Calls Tryz.prog 198 #[.int .i64 n] w fun e w'=>e=.returned (.bool (decide (1≤n) && decide (n≤1099511627776)))∧Pure w w':=by
 by_cases h:1≤n
 ·have h' : n ≥ 1:=h
  go_enter Tryz.func198,Tryz.ntmps198
  go_wp2
  go_ret
  exact ⟨ret_bool (by simp [h]),Below.refl _ _⟩
 ·have h' : ¬n ≥ 1:=h
  go_enter Tryz.func198,Tryz.ntmps198
  go_wp2
  go_ret
  exact ⟨ret_bool qc,Below.refl _ _⟩
theorem time_any (n:Int) (w:World):Calls Tryz.prog 199 #[.int .i64 n] w fun e w'=>e=.returned (.bool (decide (1≤n) && decide (n≤1125899906842624)))∧Pure w w':=by
 by_cases h:1≤n
 ·have h' : n ≥ 1:=h
  go_enter Tryz.func199,Tryz.ntmps199
  go_wp2
  go_ret
  exact ⟨ret_bool (by simp [h]),Below.refl _ _⟩
 ·have h' : ¬n ≥ 1:=h
  go_enter Tryz.func199,Tryz.ntmps199
  go_wp2
  go_ret
  exact ⟨ret_bool qc,Below.refl _ _⟩
theorem hmay_of (h:Hold):hmay h=(dchk h.1 && ((decide (1≤h.2.1) && decide (h.2.1≤1099511627776)) && (decide (1≤h.2.2) && decide (h.2.2≤1125899906842624)))):=by
 unfold hmay;simp only [Bool.and_assoc]
theorem hchk_any (v:Value) (l:List Hold) (w:World) (hr:Holds w v l) (hl:l.length≤100000) :
 Calls Tryz.prog 157 #[v] w fun e w'=>e=.returned (.int .i64 (er1 (hchk l)))∧Pure w w':=by
 obtain ⟨a,cap,rfl⟩:=hr.shape
 obtain ⟨C,hC⟩:=qe (hchk l)
 rw [←hC]
 by_cases h100:l.length≤1000
 ·have HB:=qh (∀k,k<l.length→hat l k=false→C=false) (fun k h e=>by rw [hC];unfold hchk;rw [allB_false h e,Bool.and_false])
  have HE:=qh (allB l.length (hat l)=true→C=true) (fun h=>by rw [hC];unfold hchk;rw [h,decide_eq_true h100];rfl)
  have Hr:=hid hr
  have h100' : ¬(l.length:Int) > 1000:=by omega
  clear hr hC
  go_enter Tryz.func157,Tryz.ntmps157
  go_wp2_with fail
  go_step3
  go_wp2_with fail
  go_step3
  go_wp2_with fail
  go_loopw [3,11] (fun g i wr=>∃k:Nat,k≤l.length∧g=.bool true∧i=.int .i64 k∧allB k (hat l)=true∧Pure w wr) (fun _ i _=>l.length-(RowKit.intOf i).toNat)
  case atStart=>exact ⟨0,Nat.zero_le _,rfl,rfl,rfl,Below.refl _ _⟩
  case round =>
   obtain ⟨k,hk,rfl,rfl,hal,hp⟩:=hrel
   have Hal:=hid hal
   have Hp:=hid hp
   clear hal
   by_cases hlt:k<l.length
   ·have hlt' : (k:Int)<(l.length:Int):=by omega
    have hk0:(0:Int)≤(k:Int):=by omega
    have Hrow:=qh (Holds wr (.slice a l.length cap) l) (Row.pure Hr.out hp)
    obtain ⟨b,off,rfl,hb,x0,x1,x2,x3⟩:=Holds.get Hrow.out hlt
    have Hno:=hid (fun (e:hat l k=false)=>HB.out k hlt e)
    have Hyes:=hid (fun (e:hat l k=true)=>allB_next Hal.out e)
    have Htat:=qh (hat l k=((dchk (l.getD k h0).1 && ((decide (1≤(l.getD k h0).2.1) && decide ((l.getD k h0).2.1≤1099511627776)) && (decide (1≤(l.getD k h0).2.2) && decide ((l.getD k h0).2.2≤1125899906842624)))) && (decide (k=0) || dlt (l.getD (k-1) h0).1 (l.getD k h0).1))) (by rw [←hmay_of];rfl)
    have hprev:=hid (fun (h0' : 0<k)=>(show wr.cell? ⟨b,off+(k-1)*4,none⟩=some (.int .i64 (l.getD (k-1) h0).1.1)∧wr.cell? ⟨b,off+(k-1)*4+1,none⟩=some (.int .i64 (l.getD (k-1) h0).1.2) from by
     obtain ⟨b',off',e',_,y0,y1,_,_⟩:=Holds.get Hrow.out (show k-1<l.length by omega)
     cases e';exact ⟨y0,y1⟩))
    have hd1:=hid (chk_any (l.getD k h0).1)
    have hd2:=hid (receipt_any (l.getD k h0).2.1)
    have hd3:=hid (time_any (l.getD k h0).2.2)
    have hd4:=hid (less_any (l.getD (k-1) h0).1 (l.getD k h0).1)
    generalize l.getD (k-1) h0=y at *
    generalize l.getD k h0=z at *
    obtain ⟨⟨z1,z2⟩,zr,zu⟩:=z
    obtain ⟨⟨y1,y2⟩,yr,yu⟩:=y
    unfold dv at hd1 hd4
    dsimp only at x0 x1 x2 x3 Htat hprev hd1 hd2 hd3 hd4
    obtain ⟨Wd,hWd⟩:=qe (wr.alloc (.cells #[.int .i64 z1,.int .i64 z2,.int .i64 zr,.int .i64 zu] 94))
    have Hpd:=qh (Pure wr Wd) (by rw [hWd];exact qp)
    have Hbd:=qh (Wd.heap[wr.heap.size]?=some (.cells #[.int .i64 z1,.int .i64 z2,.int .i64 zr,.int .i64 zu] 94 (0,0))) (by rw [hWd];exact ban _ _)
    have Hwb:=hid (fun W (hW:Pure Wd W)=>(Pure.then_ Hpd.out hW).cell (p:=⟨b,off+(k-1)*4,none⟩) hb)
    have Hwb2:=hid (fun W (hW:Pure Wd W)=>(Pure.then_ Hpd.out hW).cell (p:=⟨b,off+(k-1)*4+1,none⟩) hb)
    clear hp
    generalize dchk (z1,z2)=D1 at *
    generalize (decide (1≤zr) && decide (zr≤1099511627776))=D2 at *
    generalize (decide (1≤zu) && decide (zu≤1125899906842624))=D3 at *
    generalize dlt (y1,y2) (z1,z2)=D4 at *
    cases D1 with
    | false =>
      have HF:=hid (Hno.out (by rw [Htat.out];rfl))
      clear Hyes Hno Htat hprev hd4
      have hS:Hid (∀W,Pure Wd W→(W.cell? ⟨wr.heap.size,0,none⟩=some (.int .i64 z1)∧W.cell? ⟨wr.heap.size,1,none⟩=some (.int .i64 z2)∧W.cell? ⟨wr.heap.size,2,none⟩=some (.int .i64 zr)∧W.cell? ⟨wr.heap.size,3,none⟩=some (.int .i64 zu)∧Pure Wd W)):=fun W hW=>by
       have ed:=(hW.block _ (lob Hbd.out)).trans Hbd.out
       exact ⟨cob ed 0,cob ed 1,cob ed 2,cob ed 3,hW⟩
      have hst:=hid (hS.out Wd.drew qv)
      have hS2:Hid (∀W:World,(W.cell? ⟨wr.heap.size,0,none⟩=some (.int .i64 z1)∧W.cell? ⟨wr.heap.size,1,none⟩=some (.int .i64 z2)∧W.cell? ⟨wr.heap.size,2,none⟩=some (.int .i64 zr)∧W.cell? ⟨wr.heap.size,3,none⟩=some (.int .i64 zu)∧Pure Wd W)→Pure Wd W):=fun W h=>h.2.2.2.2
      go_wp2_with fail
      rw [←hWd]
      clear hWd x0 x1 x2 x3
      refine wp_region_held_drew (S:=(fun W=>W.cell? ⟨wr.heap.size,0,none⟩=some (.int .i64 z1)∧W.cell? ⟨wr.heap.size,1,none⟩=some (.int .i64 z2)∧W.cell? ⟨wr.heap.size,2,none⟩=some (.int .i64 zr)∧W.cell? ⟨wr.heap.size,3,none⟩=some (.int .i64 zu)∧Pure Wd W)) qk ?_ (fun hHeld=>?_)
      ·exact qz
      refine tkA 0 ?_
      refine tkA 1 ?_
      refine tkC 2 fun K hK=>?_
      go_simp
      go_at_call 176;(with_reducible refine (hd1.out _).mono ?_);rintro e w7 ⟨rfl,hp7⟩;go_wp2_with fail
      refine hK.out _ _ qz fun hHeld=>?_
      clear hK K
      refine tkA 3 ?_
      refine tkU 4 ?_
      refine tkU 5 ?_
      refine tkU 6 ?_
      refine tkA 7 ?_
      refine tkA 8 ?_
      refine tkU 9 ?_
      refine tkU 10 ?_
      refine tkU 11 ?_
      refine tkA 12 ?_
      refine tkA 13 ?_
      refine tkU 14 ?_
      refine tkU 15 ?_
      refine tkU 16 ?_
      refine tkU 17 ?_
      refine tkU 18 ?_
      refine tkU 19 ?_
      refine tkU 20 ?_
      refine tkU 21 ?_
      refine tkU 22 ?_
      refine tkU 23 ?_
      refine tkU 24 ?_
      refine tkU 25 ?_
      refine tkU 26 ?_
      refine tkA 27 ?_
      refine tkA 28 ?_
      refine wpAnyH_done qk ?_ _
      have hx:=hid (hS2.out w7 qa)
      go_wp2
      rw [Exit.noGoto_ret]
      go_ret
      exact ⟨by rw [HF.out];rfl,Hp.out.then_ (Pure.then_ Hpd.out hx.out)⟩
    | true =>
    cases D2 with
    | false =>
      have HF:=hid (Hno.out (by rw [Htat.out];rfl))
      clear Hyes Hno Htat hprev hd4
      have hS:Hid (∀W,Pure Wd W→(W.cell? ⟨wr.heap.size,0,none⟩=some (.int .i64 z1)∧W.cell? ⟨wr.heap.size,1,none⟩=some (.int .i64 z2)∧W.cell? ⟨wr.heap.size,2,none⟩=some (.int .i64 zr)∧W.cell? ⟨wr.heap.size,3,none⟩=some (.int .i64 zu)∧Pure Wd W)):=fun W hW=>by
       have ed:=(hW.block _ (lob Hbd.out)).trans Hbd.out
       exact ⟨cob ed 0,cob ed 1,cob ed 2,cob ed 3,hW⟩
      have hst:=hid (hS.out Wd.drew qv)
      have hS2:Hid (∀W:World,(W.cell? ⟨wr.heap.size,0,none⟩=some (.int .i64 z1)∧W.cell? ⟨wr.heap.size,1,none⟩=some (.int .i64 z2)∧W.cell? ⟨wr.heap.size,2,none⟩=some (.int .i64 zr)∧W.cell? ⟨wr.heap.size,3,none⟩=some (.int .i64 zu)∧Pure Wd W)→Pure Wd W):=fun W h=>h.2.2.2.2
      go_wp2_with fail
      rw [←hWd]
      clear hWd x0 x1 x2 x3
      refine wp_region_held_drew (S:=(fun W=>W.cell? ⟨wr.heap.size,0,none⟩=some (.int .i64 z1)∧W.cell? ⟨wr.heap.size,1,none⟩=some (.int .i64 z2)∧W.cell? ⟨wr.heap.size,2,none⟩=some (.int .i64 zr)∧W.cell? ⟨wr.heap.size,3,none⟩=some (.int .i64 zu)∧Pure Wd W)) qk ?_ (fun hHeld=>?_)
      ·exact qz
      refine tkA 0 ?_
      refine tkA 1 ?_
      refine tkC 2 fun K hK=>?_
      go_simp
      go_at_call 176;(with_reducible refine (hd1.out _).mono ?_);rintro e w7 ⟨rfl,hp7⟩;go_wp2_with fail
      refine hK.out _ _ qz fun hHeld=>?_
      clear hK K
      refine tkA 3 ?_
      refine tkA 4 ?_
      refine tkA 5 ?_
      refine tkC 6 fun K hK=>?_
      go_simp
      go_at_call 198;(with_reducible refine (hd2.out _).mono ?_);rintro e w8 ⟨rfl,hp8⟩;go_wp2_with fail
      refine hK.out _ _ qz fun hHeld=>?_
      clear hK K
      refine tkA 7 ?_
      refine tkA 8 ?_
      refine tkU 9 ?_
      refine tkU 10 ?_
      refine tkU 11 ?_
      refine tkA 12 ?_
      refine tkA 13 ?_
      refine tkU 14 ?_
      refine tkU 15 ?_
      refine tkU 16 ?_
      refine tkU 17 ?_
      refine tkU 18 ?_
      refine tkU 19 ?_
      refine tkU 20 ?_
      refine tkU 21 ?_
      refine tkU 22 ?_
      refine tkU 23 ?_
      refine tkU 24 ?_
      refine tkU 25 ?_
      refine tkU 26 ?_
      refine tkA 27 ?_
      refine tkA 28 ?_
      refine wpAnyH_done qk ?_ _
      have hx:=hid (hS2.out w8 qa)
      go_wp2
      rw [Exit.noGoto_ret]
      go_ret
      exact ⟨by rw [HF.out];rfl,Hp.out.then_ (Pure.then_ Hpd.out hx.out)⟩
    | true =>
    cases D3 with
    | false =>
      have HF:=hid (Hno.out (by rw [Htat.out];rfl))
      clear Hyes Hno Htat hprev hd4
      have hS:Hid (∀W,Pure Wd W→(W.cell? ⟨wr.heap.size,0,none⟩=some (.int .i64 z1)∧W.cell? ⟨wr.heap.size,1,none⟩=some (.int .i64 z2)∧W.cell? ⟨wr.heap.size,2,none⟩=some (.int .i64 zr)∧W.cell? ⟨wr.heap.size,3,none⟩=some (.int .i64 zu)∧Pure Wd W)):=fun W hW=>by
       have ed:=(hW.block _ (lob Hbd.out)).trans Hbd.out
       exact ⟨cob ed 0,cob ed 1,cob ed 2,cob ed 3,hW⟩
      have hst:=hid (hS.out Wd.drew qv)
      have hS2:Hid (∀W:World,(W.cell? ⟨wr.heap.size,0,none⟩=some (.int .i64 z1)∧W.cell? ⟨wr.heap.size,1,none⟩=some (.int .i64 z2)∧W.cell? ⟨wr.heap.size,2,none⟩=some (.int .i64 zr)∧W.cell? ⟨wr.heap.size,3,none⟩=some (.int .i64 zu)∧Pure Wd W)→Pure Wd W):=fun W h=>h.2.2.2.2
      go_wp2_with fail
      rw [←hWd]
      clear hWd x0 x1 x2 x3
      refine wp_region_held_drew (S:=(fun W=>W.cell? ⟨wr.heap.size,0,none⟩=some (.int .i64 z1)∧W.cell? ⟨wr.heap.size,1,none⟩=some (.int .i64 z2)∧W.cell? ⟨wr.heap.size,2,none⟩=some (.int .i64 zr)∧W.cell? ⟨wr.heap.size,3,none⟩=some (.int .i64 zu)∧Pure Wd W)) qk ?_ (fun hHeld=>?_)
      ·exact qz
      refine tkA 0 ?_
      refine tkA 1 ?_
      refine tkC 2 fun K hK=>?_
      go_simp
      go_at_call 176;(with_reducible refine (hd1.out _).mono ?_);rintro e w7 ⟨rfl,hp7⟩;go_wp2_with fail
      refine hK.out _ _ qz fun hHeld=>?_
      clear hK K
      refine tkA 3 ?_
      refine tkA 4 ?_
      refine tkA 5 ?_
      refine tkC 6 fun K hK=>?_
      go_simp
      go_at_call 198;(with_reducible refine (hd2.out _).mono ?_);rintro e w8 ⟨rfl,hp8⟩;go_wp2_with fail
      refine hK.out _ _ qz fun hHeld=>?_
      clear hK K
      refine tkA 7 ?_
      refine tkA 8 ?_
      refine tkA 9 ?_
      refine tkA 10 ?_
      refine tkC 11 fun K hK=>?_
      go_simp
      go_at_call 199;(with_reducible refine (hd3.out _).mono ?_);rintro e w9 ⟨rfl,hp9⟩;go_wp2_with fail
      refine hK.out _ _ qz fun hHeld=>?_
      clear hK K
      refine tkA 12 ?_
      refine tkA 13 ?_
      refine tkU 14 ?_
      refine tkU 15 ?_
      refine tkU 16 ?_
      refine tkU 17 ?_
      refine tkU 18 ?_
      refine tkU 19 ?_
      refine tkU 20 ?_
      refine tkU 21 ?_
      refine tkU 22 ?_
      refine tkU 23 ?_
      refine tkU 24 ?_
      refine tkU 25 ?_
      refine tkU 26 ?_
      refine tkA 27 ?_
      refine tkA 28 ?_
      refine wpAnyH_done qk ?_ _
      have hx:=hid (hS2.out w9 qa)
      go_wp2
      rw [Exit.noGoto_ret]
      go_ret
      exact ⟨by rw [HF.out];rfl,Hp.out.then_ (Pure.then_ Hpd.out hx.out)⟩
    | true =>
      by_cases c4:k=0
      ·subst c4
       have HT:=hid (Hyes.out (by rw [Htat.out];rfl))
       clear Hyes Hno Htat hprev hd4
       simp only [Nat.zero_mul,Nat.add_zero] at x0 x1 x2 x3
       have hS:Hid (∀W,Pure Wd W→(W.cell? ⟨wr.heap.size,0,none⟩=some (.int .i64 z1)∧W.cell? ⟨wr.heap.size,1,none⟩=some (.int .i64 z2)∧W.cell? ⟨wr.heap.size,2,none⟩=some (.int .i64 zr)∧W.cell? ⟨wr.heap.size,3,none⟩=some (.int .i64 zu)∧Pure Wd W)):=fun W hW=>by
        have ed:=(hW.block _ (lob Hbd.out)).trans Hbd.out
        exact ⟨cob ed 0,cob ed 1,cob ed 2,cob ed 3,hW⟩
       have hst:=hid (hS.out Wd.drew qv)
       have hS2:Hid (∀W:World,(W.cell? ⟨wr.heap.size,0,none⟩=some (.int .i64 z1)∧W.cell? ⟨wr.heap.size,1,none⟩=some (.int .i64 z2)∧W.cell? ⟨wr.heap.size,2,none⟩=some (.int .i64 zr)∧W.cell? ⟨wr.heap.size,3,none⟩=some (.int .i64 zu)∧Pure Wd W)→Pure Wd W):=fun W h=>h.2.2.2.2
       go_wp2_with fail
       rw [←hWd]
       clear hWd x0 x1 x2 x3
       refine wp_region_held_drew (S:=(fun W=>W.cell? ⟨wr.heap.size,0,none⟩=some (.int .i64 z1)∧W.cell? ⟨wr.heap.size,1,none⟩=some (.int .i64 z2)∧W.cell? ⟨wr.heap.size,2,none⟩=some (.int .i64 zr)∧W.cell? ⟨wr.heap.size,3,none⟩=some (.int .i64 zu)∧Pure Wd W)) qk ?_ (fun hHeld=>?_)
       ·exact qz
       refine tkA 0 ?_
       refine tkA 1 ?_
       refine tkC 2 fun K hK=>?_
       go_simp
       go_at_call 176;(with_reducible refine (hd1.out _).mono ?_);rintro e w7 ⟨rfl,hp7⟩;go_wp2_with fail
       refine hK.out _ _ qz fun hHeld=>?_
       clear hK K
       refine tkA 3 ?_
       refine tkA 4 ?_
       refine tkA 5 ?_
       refine tkC 6 fun K hK=>?_
       go_simp
       go_at_call 198;(with_reducible refine (hd2.out _).mono ?_);rintro e w8 ⟨rfl,hp8⟩;go_wp2_with fail
       refine hK.out _ _ qz fun hHeld=>?_
       clear hK K
       refine tkA 7 ?_
       refine tkA 8 ?_
       refine tkA 9 ?_
       refine tkA 10 ?_
       refine tkC 11 fun K hK=>?_
       go_simp
       go_at_call 199;(with_reducible refine (hd3.out _).mono ?_);rintro e w9 ⟨rfl,hp9⟩;go_wp2_with fail
       refine hK.out _ _ qz fun hHeld=>?_
       clear hK K
       refine tkA 12 ?_
       refine tkA 13 ?_
       refine tkA 14 ?_
       refine tkA 15 ?_
       refine tkA 16 ?_
       refine tkU 17 ?_
       refine tkU 18 ?_
       refine tkU 19 ?_
       refine tkU 20 ?_
       refine tkU 21 ?_
       refine tkU 22 ?_
       refine tkU 23 ?_
       refine tkU 24 ?_
       refine tkU 25 ?_
       refine tkA 26 ?_
       refine tkA 27 ?_
       refine tkA 28 ?_
       refine wpAnyH_done qk ?_ _
       have hx:=hid (hS2.out w9 qa)
       go_wp2
       go_roundw
       case rel=>exact ⟨0+1,by omega,rfl,by go_num,HT.out,Hp.out.then_ (Pure.then_ Hpd.out hx.out)⟩
       case measure=>simp [RowKit.intOf];omega
      ·have h0' : ((k:Int) == 0)=false:=by simp;omega
       have h0'' : (k == 0)=false:=by simpa using c4
       have hsub:IntKind.i64.wrap ((k:Int)-1)=((k-1:Nat):Int):=by rw [IntWalk.i64_in _ oe];omega
       have hsub2:(k:Int)-1=((k-1:Nat):Int):=by omega
       have hlt2:((k-1:Nat):Int)<(l.length:Int):=by omega
       obtain ⟨y0,y0b⟩:=hprev.out oe
       have hn:(0:Int)≤((k-1:Nat):Int):=by omega
       have HT':=hid (fun (e:D4=true)=>Hyes.out (by rw [Htat.out,e,Bool.or_true];rfl))
       have HF':=hid (fun (e:D4=false)=>Hno.out (by rw [Htat.out,e,decide_eq_false c4];rfl))
       have hwm:IntKind.i64.wrap ((k-1:Nat):Int)=((k-1:Nat):Int):=IntWalk.i64_in _ oe
       clear Hyes Hno Htat hprev
       cases D4 with
       | true =>
         have HT:=hid (HT'.out rfl)
         clear HT' HF'
         have hS:Hid (∀W,Pure Wd W→(W.cell? ⟨wr.heap.size,0,none⟩=some (.int .i64 z1)∧W.cell? ⟨wr.heap.size,1,none⟩=some (.int .i64 z2)∧W.cell? ⟨wr.heap.size,2,none⟩=some (.int .i64 zr)∧W.cell? ⟨wr.heap.size,3,none⟩=some (.int .i64 zu)∧W.cell? ⟨b,off+(k-1)*4,none⟩=some (.int .i64 y1)∧W.cell? ⟨b,off+(k-1)*4+1,none⟩=some (.int .i64 y2)∧Pure Wd W)):=fun W hW=>by
          have ed:=(hW.block _ (lob Hbd.out)).trans Hbd.out
          exact ⟨cob ed 0,cob ed 1,cob ed 2,cob ed 3,(Hwb.out W hW).trans y0,(Hwb2.out W hW).trans y0b,hW⟩
         have hst:=hid (hS.out Wd.drew qv)
         have hS2:Hid (∀W:World,(W.cell? ⟨wr.heap.size,0,none⟩=some (.int .i64 z1)∧W.cell? ⟨wr.heap.size,1,none⟩=some (.int .i64 z2)∧W.cell? ⟨wr.heap.size,2,none⟩=some (.int .i64 zr)∧W.cell? ⟨wr.heap.size,3,none⟩=some (.int .i64 zu)∧W.cell? ⟨b,off+(k-1)*4,none⟩=some (.int .i64 y1)∧W.cell? ⟨b,off+(k-1)*4+1,none⟩=some (.int .i64 y2)∧Pure Wd W)→Pure Wd W):=fun W h=>h.2.2.2.2.2.2
         generalize hj:k-1=j at *
         go_wp2_with fail
         rw [←hWd]
         clear hWd x0 x1 x2 x3
         refine wp_region_held_drew (S:=(fun W=>W.cell? ⟨wr.heap.size,0,none⟩=some (.int .i64 z1)∧W.cell? ⟨wr.heap.size,1,none⟩=some (.int .i64 z2)∧W.cell? ⟨wr.heap.size,2,none⟩=some (.int .i64 zr)∧W.cell? ⟨wr.heap.size,3,none⟩=some (.int .i64 zu)∧W.cell? ⟨b,off+j*4,none⟩=some (.int .i64 y1)∧W.cell? ⟨b,off+j*4+1,none⟩=some (.int .i64 y2)∧Pure Wd W)) qk ?_ (fun hHeld=>?_)
         ·exact qz
         refine tkA 0 ?_
         refine tkA 1 ?_
         refine tkC 2 fun K hK=>?_
         go_simp
         go_at_call 176;(with_reducible refine (hd1.out _).mono ?_);rintro e w7 ⟨rfl,hp7⟩;go_wp2_with fail
         refine hK.out _ _ qz fun hHeld=>?_
         clear hK K
         refine tkA 3 ?_
         refine tkA 4 ?_
         refine tkA 5 ?_
         refine tkC 6 fun K hK=>?_
         go_simp
         go_at_call 198;(with_reducible refine (hd2.out _).mono ?_);rintro e w8 ⟨rfl,hp8⟩;go_wp2_with fail
         refine hK.out _ _ qz fun hHeld=>?_
         clear hK K
         refine tkA 7 ?_
         refine tkA 8 ?_
         refine tkA 9 ?_
         refine tkA 10 ?_
         refine tkC 11 fun K hK=>?_
         go_simp
         go_at_call 199;(with_reducible refine (hd3.out _).mono ?_);rintro e w9 ⟨rfl,hp9⟩;go_wp2_with fail
         refine hK.out _ _ qz fun hHeld=>?_
         clear hK K
         refine tkA 12 ?_
         refine tkA 13 ?_
         refine tkA 14 ?_
         refine tkA 15 ?_
         refine tkA 16 ?_
         refine tkA 17 ?_
         refine tkA 18 ?_
         refine tkA 19 ?_
         refine tkA 20 ?_
         refine tkA 21 ?_
         refine tkA 22 ?_
         refine tkA 23 ?_
         refine tkA 24 ?_
         refine tkC 25 fun K hK=>?_
         go_simp
         go_at_call 145;(with_reducible refine (hd4.out _).mono ?_);rintro e w10 ⟨rfl,hp10⟩;go_wp2_with fail
         refine hK.out _ _ qz fun hHeld=>?_
         clear hK K
         refine tkA 26 ?_
         refine tkA 27 ?_
         refine tkA 28 ?_
         refine wpAnyH_done qk ?_ _
         have hx:=hid (hS2.out w10 qa)
         go_wp2
         go_roundw
         case rel=>exact ⟨k+1,by omega,rfl,by go_num,HT.out,Hp.out.then_ (Pure.then_ Hpd.out hx.out)⟩
         case measure=>simp [RowKit.intOf];omega
       | false =>
         have HF:=hid (HF'.out rfl)
         clear HT' HF'
         have hS:Hid (∀W,Pure Wd W→(W.cell? ⟨wr.heap.size,0,none⟩=some (.int .i64 z1)∧W.cell? ⟨wr.heap.size,1,none⟩=some (.int .i64 z2)∧W.cell? ⟨wr.heap.size,2,none⟩=some (.int .i64 zr)∧W.cell? ⟨wr.heap.size,3,none⟩=some (.int .i64 zu)∧W.cell? ⟨b,off+(k-1)*4,none⟩=some (.int .i64 y1)∧W.cell? ⟨b,off+(k-1)*4+1,none⟩=some (.int .i64 y2)∧Pure Wd W)):=fun W hW=>by
          have ed:=(hW.block _ (lob Hbd.out)).trans Hbd.out
          exact ⟨cob ed 0,cob ed 1,cob ed 2,cob ed 3,(Hwb.out W hW).trans y0,(Hwb2.out W hW).trans y0b,hW⟩
         have hst:=hid (hS.out Wd.drew qv)
         have hS2:Hid (∀W:World,(W.cell? ⟨wr.heap.size,0,none⟩=some (.int .i64 z1)∧W.cell? ⟨wr.heap.size,1,none⟩=some (.int .i64 z2)∧W.cell? ⟨wr.heap.size,2,none⟩=some (.int .i64 zr)∧W.cell? ⟨wr.heap.size,3,none⟩=some (.int .i64 zu)∧W.cell? ⟨b,off+(k-1)*4,none⟩=some (.int .i64 y1)∧W.cell? ⟨b,off+(k-1)*4+1,none⟩=some (.int .i64 y2)∧Pure Wd W)→Pure Wd W):=fun W h=>h.2.2.2.2.2.2
         generalize hj:k-1=j at *
         go_wp2_with fail
         rw [←hWd]
         clear hWd x0 x1 x2 x3
         refine wp_region_held_drew (S:=(fun W=>W.cell? ⟨wr.heap.size,0,none⟩=some (.int .i64 z1)∧W.cell? ⟨wr.heap.size,1,none⟩=some (.int .i64 z2)∧W.cell? ⟨wr.heap.size,2,none⟩=some (.int .i64 zr)∧W.cell? ⟨wr.heap.size,3,none⟩=some (.int .i64 zu)∧W.cell? ⟨b,off+j*4,none⟩=some (.int .i64 y1)∧W.cell? ⟨b,off+j*4+1,none⟩=some (.int .i64 y2)∧Pure Wd W)) qk ?_ (fun hHeld=>?_)
         ·exact qz
         refine tkA 0 ?_
         refine tkA 1 ?_
         refine tkC 2 fun K hK=>?_
         go_simp
         go_at_call 176;(with_reducible refine (hd1.out _).mono ?_);rintro e w7 ⟨rfl,hp7⟩;go_wp2_with fail
         refine hK.out _ _ qz fun hHeld=>?_
         clear hK K
         refine tkA 3 ?_
         refine tkA 4 ?_
         refine tkA 5 ?_
         refine tkC 6 fun K hK=>?_
         go_simp
         go_at_call 198;(with_reducible refine (hd2.out _).mono ?_);rintro e w8 ⟨rfl,hp8⟩;go_wp2_with fail
         refine hK.out _ _ qz fun hHeld=>?_
         clear hK K
         refine tkA 7 ?_
         refine tkA 8 ?_
         refine tkA 9 ?_
         refine tkA 10 ?_
         refine tkC 11 fun K hK=>?_
         go_simp
         go_at_call 199;(with_reducible refine (hd3.out _).mono ?_);rintro e w9 ⟨rfl,hp9⟩;go_wp2_with fail
         refine hK.out _ _ qz fun hHeld=>?_
         clear hK K
         refine tkA 12 ?_
         refine tkA 13 ?_
         refine tkA 14 ?_
         refine tkA 15 ?_
         refine tkA 16 ?_
         refine tkA 17 ?_
         refine tkA 18 ?_
         refine tkA 19 ?_
         refine tkA 20 ?_
         refine tkA 21 ?_
         refine tkA 22 ?_
         refine tkA 23 ?_
         refine tkA 24 ?_
         refine tkC 25 fun K hK=>?_
         go_simp
         go_at_call 145;(with_reducible refine (hd4.out _).mono ?_);rintro e w10 ⟨rfl,hp10⟩;go_wp2_with fail
         refine hK.out _ _ qz fun hHeld=>?_
         clear hK K
         refine tkA 26 ?_
         refine tkA 27 ?_
         refine tkA 28 ?_
         refine wpAnyH_done qk ?_ _
         have hx:=hid (hS2.out w10 qa)
         go_wp2
         rw [Exit.noGoto_ret]
         go_ret
         exact ⟨by rw [HF.out];rfl,Hp.out.then_ (Pure.then_ Hpd.out hx.out)⟩
   ·have hlt' : ¬(k:Int)<(l.length:Int):=by omega
    obtain rfl:k=l.length:=by omega
    have HT:=hid (HE.out Hal.out)
    go_wp2
    first|rw [Exit.noGoto_ret]|skip
    go_ret
    exact ⟨by rw [HT.out];rfl,Hp.out⟩
 ·have hC2:C=false:=by rw [hC];unfold hchk;rw [decide_eq_false h100];rfl
  subst hC2
  have h100' : (l.length:Int) > 1000:=by omega
  go_enter Tryz.func157,Tryz.ntmps157
  go_wp2_with fail
  go_step3
  go_wp2
  rw [Exit.noGoto_ret]
  go_ret
  exact ⟨rfl,Below.refl _ _⟩
end Go.Proofs.YtdlpnhfgjficgaaGreat
