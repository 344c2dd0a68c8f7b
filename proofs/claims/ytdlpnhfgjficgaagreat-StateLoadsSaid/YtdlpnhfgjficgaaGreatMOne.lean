import Derived.Test.YtdlpnhfgjficgaaGreatMPa
import Derived.Sort.OwnSortedInts
import Derived.Shelf.SlIterI.Nil
namespace Go.Proofs.YtdlpnhfgjficgaaGreat
section
open Go.RowKit
theorem tkC {P:Program} {md:Region.Mode} {ops:Array Oper} {Q:Exit→Act→World→Prop} {S:World→Prop} {fuel:Nat} {listed:Array Bool} {a:Act} {w:World} (i:Nat) {oi:Oper} {l' : Array Bool} {f:Value→Act}
 (h:∀K:Act→World→Prop,Shut (∀v w,S w→(S w→wpAnyH P md ops Q S fuel l' (f v) w)→K (a.put oi.dst v) w)→Oper.wp P oi a w K Q)
 (hi:ops[i]?=some oi:=by rfl) (hr:Region.ready md ops listed=[i]:=by kernel_rfl)
 (hl:listed.setIfInBounds i true=l':=by ((try simp only [List.setIfInBounds_toArray,List.set_cons_zero,List.set_cons_succ]);rfl))
 (hf:∀v,a.put oi.dst v=f v:=by (intro v;(try simp only [Act.put,List.setIfInBounds_toArray,List.set_cons_zero,List.set_cons_succ,List.getElem_toArray,List.getElem_cons_succ,List.getElem_cons_zero]);rfl))
 (hw:Region.wanted oi (yielded ops a.tmps)=true:=by rfl):wpAnyH P md ops Q S (fuel+1) listed a w:=by
 subst hl
 refine wpAnyH_ready hr (by simp) (AllReadyH.cons hi (fun K hK=>?_) AllReadyH.nil)
 rw [if_pos hw]
 exact h K (fun v w hS hW=>hK.out _ w hS (fun hs=>by rw [hf v];exact hW hs))
end
section
open Go.RowKit Go.Maps
theorem agg3 {a b c x y z:Value} (h:Value.agg #[a,b,c]=.agg #[x,y,z]):a=x∧b=y∧c=z:=by simpa using h
theorem set3 {w:World} {b:Nat} {t0 t1 t2:Value} {T:TypeId} (hb:w.heap[b]?=some (.cells #[t0,t1,t2] T (0,0))) (v0 v1 v2:Value) :
 (((w.setCell ⟨b,0,none⟩ v0).setCell ⟨b,1,none⟩ v1).setCell ⟨b,2,none⟩ v2).heap[b]?=some (.cells #[v0,v1,v2] T (0,0)):=by
 have:=bsc (bsc (bsc hb 0 v0) 1 v1) 2 v2
 simpa using this
theorem kept3 (w:World) (b:Nat) (v0 v1 v2:Value):Kept (fun k=>k=b) w (((w.setCell ⟨b,0,none⟩ v0).setCell ⟨b,1,none⟩ v1).setCell ⟨b,2,none⟩ v2) :=
 have h1:Kept (fun k=>k=b) w (w.setCell ⟨b,0,none⟩ v0):=Kept.setCell (S:=fun k=>k=b) (Kept.refl _ w) (p:=⟨b,0,none⟩) (fun _=>rfl) v0
 have h2:Kept (fun k=>k=b) w ((w.setCell ⟨b,0,none⟩ v0).setCell ⟨b,1,none⟩ v1):=Kept.setCell (S:=fun k=>k=b) h1 (p:=⟨b,1,none⟩) (fun _=>rfl) v1
 Kept.setCell (S:=fun k=>k=b) h2 (p:=⟨b,2,none⟩) (fun _=>rfl) v2
end
section
set_option maxHeartbeats 4000000
set_option maxRecDepth 8000
open Go.RowKit Go.Maps
def textB (s:List UInt8):List UInt8:=num s.length++s
def msgB (m:Msg):List UInt8:=dotB m.1++textB m.2.1++textB m.2.2.1++num m.2.2.2.toNat
def bagB (g:Bag):List UInt8:=ctxB g.2.1 g.2.2++num g.1.length++g.1.flatMap msgB
def SmallM (m:Msg):Prop:=Small m.1∧0≤m.2.2.2∧m.2.2.2<9223372036854775808∧m.2.1.length≤10000∧m.2.2.1.length≤10000
def SmallG (g:Bag):Prop:=(∀m ∈ g.1,SmallM m)∧(∀d ∈ g.2.1,Small d)∧(∀d ∈ g.2.2,Small d)∧g.1.length≤10000∧g.2.1.length≤100000∧g.2.2.length≤100000
theorem textB_len (s:List UInt8) (h:s.length≤10000):(textB s).length≤10010:=by
 have:=num_len s.length oe
 unfold textB;rw [List.length_append];omega
theorem msgB_len (m:Msg) (h:SmallM m):(msgB m).length≤20050:=by
 obtain ⟨h1,h2,h3,h4,h5⟩:=h
 have:=dotB_len m.1 h1
 have:=textB_len _ h4
 have:=textB_len _ h5
 have:=num_len m.2.2.2.toNat oe
 unfold msgB;rw [List.length_append,List.length_append,List.length_append];omega
theorem flatM_len (l:List Msg) (h:∀d ∈ l,SmallM d):(l.flatMap msgB).length≤20050*l.length:=by
 induction l with
 | nil=>simp
 | cons d l ih =>
   have h1:=msgB_len d (h d qb)
   have h2:=ih (fun x hx=>h x (by simp [hx]))
   rw [List.flatMap_cons,List.length_append,List.length_cons];omega
theorem bagB_take (p:List UInt8) (l:List Msg) (k:Nat) (h:k<l.length):p++(l.take (k+1)).flatMap msgB=(((p++(l.take k).flatMap msgB++dotB (l.getD k m0).1)++textB (l.getD k m0).2.1)++textB (l.getD k m0).2.2.1)++num (l.getD k m0).2.2.2.toNat:=by
 rw [take_succ_m l k h];simp [msgB,List.append_assoc]
theorem rbbytes_any (v:Value) (g:Bag) (w:World) (hat:BagAt w v g) (hsm:SmallG g) :
 Calls Tryz.prog 63 #[v] w fun e w'=>e=.returned (.string (bs (bagB g)))∧Pure w w':=by
 obtain ⟨v0,v1,v2,rfl,h0,h1,h2⟩:=hat
 obtain ⟨L,B,C⟩:=g
 obtain ⟨sM,sB,sC,lM,lB,lC⟩:=hsm
 dsimp only at h0 h1 h2 sM sB sC lM lB lC
 obtain ⟨a0,c0,rfl⟩:=h0.shape
 obtain ⟨a1,c1,rfl⟩:=h1.shape
 obtain ⟨a2,c2,rfl⟩:=h2.shape
 have SM:=hid sM
 obtain ⟨wz,hwz⟩:=qe (w.alloc (.cells #[.slice a0 L.length c0,.slice a1 B.length c1,.slice a2 C.length c2] 34))
 have Hwz:=qh (Pure w wz) (by rw [hwz];exact qp)
 have b0:wz.heap[w.heap.size]?=some (.cells #[.slice a0 L.length c0,.slice a1 B.length c1,.slice a2 C.length c2] 34 (0,0)):=by rw [hwz];exact ban _ _
 have hS:Hid (∀W,Pure wz W→(W.cell? ⟨w.heap.size,0,none⟩=some (.slice a0 L.length c0)∧W.cell? ⟨w.heap.size,1,none⟩=some (.slice a1 B.length c1)∧W.cell? ⟨w.heap.size,2,none⟩=some (.slice a2 C.length c2)∧Pure wz W)):=fun W hW=>by
  have e0:=(hW.block _ (lob b0)).trans b0
  exact ⟨cob e0 0,cob e0 1,cob e0 2,hW⟩
 have hS2:Hid (∀W:World,(W.cell? ⟨w.heap.size,0,none⟩=some (.slice a0 L.length c0)∧W.cell? ⟨w.heap.size,1,none⟩=some (.slice a1 B.length c1)∧W.cell? ⟨w.heap.size,2,none⟩=some (.slice a2 C.length c2)∧Pure wz W)→Pure wz W):=fun W h=>h.2.2.2
 have hst:=hid (hS.out wz.drew qv)
 have HL:=qh (Msgs wz (.slice a0 L.length c0) L) (Row.pure h0 Hwz.out)
 have hctx:=hid (fun W (hW:Pure wz W)=>rcbytes_any _ _ B C W (show Dots W (.slice a1 B.length c1) B from Row.pure h1 (Hwz.out.then_ hW)) (show Dots W (.slice a2 C.length c2) C from Row.pure h2 (Hwz.out.then_ hW)) sB sC lB lC)
 have hint:=hid (fun W=>rint_any (L.length:Int) W oe oe)
 have n1:¬9223372036854775807<(bs (ctxB B C)).size+(bs (num L.length)).size:=by
  have:=rowB_len B sB lB
  have:=rowB_len C sC lC
  have:=num_len L.length oe
  rw [bs_size,bs_size];unfold ctxB;rw [List.length_append];omega
 have hlp:(ctxB B C++num L.length).length≤5000000:=by
  have:=rowB_len B sB lB
  have:=rowB_len C sC lC
  have:=num_len L.length oe
  unfold ctxB;rw [List.length_append,List.length_append];omega
 have hgB:=qh (bagB (L,B,C)=(ctxB B C++num L.length)++L.flatMap msgB) (rfl)
 have happ:=hid (bs_append (ctxB B C) (num L.length))
 rw [Int.toNat_natCast] at hint
 generalize hP:ctxB B C++num L.length=P at *
 generalize bs (ctxB B C)=X at *
 generalize bs (num L.length)=Y at *
 clear hP b0 h0 h1 h2 sM sB sC
 go_enter Tryz.func63,Tryz.ntmps63
 go_wp2_with fail
 rw [←hwz]
 clear hwz
 go_region_held3 (fun W=>W.cell? ⟨w.heap.size,0,none⟩=some (.slice a0 L.length c0)∧W.cell? ⟨w.heap.size,1,none⟩=some (.slice a1 B.length c1)∧W.cell? ⟨w.heap.size,2,none⟩=some (.slice a2 C.length c2)∧Pure wz W)
  (first|with_reducible exact hst.out|with_reducible exact hS.out _ (Pure.then_ (hS2.out _ qa) qa))
  (first
    | (go_at_call 130;with_reducible refine (hctx.out _ (hS2.out _ qa)).mono ?_;rintro e w1 ⟨rfl,hp1⟩)
    | (go_at_call 61;with_reducible refine (hint.out _).mono ?_;rintro e w1 ⟨rfl,hp1⟩))
 have Hp1:=hid (hS2.out w1 qa)
 clear hp1 hst n1
 go_wp2
 go_loopw [3,4,5] (fun s i _ wr=>∃k:Nat,k≤L.length∧i=.int .i64 k∧s=.string (bs (P++(L.take k).flatMap msgB))∧Pure wz wr) (fun _ i _ _=>L.length-(RowKit.intOf i).toNat)
 case atStart=>exact ⟨0,Nat.zero_le _,rfl,by rw [happ.out];simp,Hp1.out⟩
 case round =>
  obtain ⟨k,hk,rfl,rfl,hp⟩:=hrel
  obtain ⟨f0,-,-,-⟩:=hS.out wr hp
  by_cases hlt:k<L.length
  ·obtain ⟨b,off,rfl,hb,d0,d1,d2,d3,d4⟩:=Msgs.get (show Msgs wr (.slice a0 L.length c0) L from Row.pure HL.out hp) hlt
   have hlt' : (k:Int)<(L.length:Int):=by omega
   have Hstep:=hid (bagB_take P L k hlt)
   have hsmz:=SM.out _ (mem_get_m hlt)
   have hfl:=flatM_len (L.take k) (fun d hd=>SM.out d (List.mem_of_mem_take hd))
   rw [List.length_take] at hfl
   have hpl:(P++(L.take k).flatMap msgB).length≤300000000:=by rw [List.length_append];omega
   generalize P++(L.take k).flatMap msgB=A at *
   generalize L.getD k m0=z at *
   obtain ⟨⟨z1,z2⟩,q,bo,c⟩:=z
   obtain ⟨s1,s2,s3,s4,s5⟩:=hsmz
   dsimp only at d0 d1 d2 d3 d4 s1 s2 s3 s4 s5 Hstep
   have k1:=dotB_len _ s1
   have k2:=textB_len q s4
   have k3:=textB_len bo s5
   have k4:=num_len c.toNat oe
   have cD:=hid (fun W=>rdbytes_any (z1,z2) W s1)
   have cQ:=hid (fun W=>rtext_any q W oe)
   have cB:=hid (fun W=>rtext_any bo W oe)
   have cC:=hid (fun W=>rint_any c W s2 s3)
   have hap:Hid ((((bs A++bs (dotB (z1,z2)))++bs (textB q))++bs (textB bo))++bs (num c.toNat)=bs ((((A++dotB (z1,z2))++textB q)++textB bo)++num c.toNat)):=by
    show _=_
    rw [bs_append,bs_append,bs_append,bs_append]
   have m1:¬9223372036854775807<(bs A).size+(bs (dotB (z1,z2))).size:=by rw [bs_size,bs_size];omega
   have m2:¬9223372036854775807<(bs A).size+(bs (dotB (z1,z2))).size+(bs (textB q)).size:=by rw [bs_size,bs_size,bs_size];omega
   have m3:¬9223372036854775807<(bs A).size+(bs (dotB (z1,z2))).size+(bs (textB q)).size+(bs (textB bo)).size:=by rw [bs_size,bs_size,bs_size,bs_size];omega
   have m4:¬9223372036854775807<(bs A).size+(bs (dotB (z1,z2))).size+(bs (textB q)).size+(bs (textB bo)).size+(bs (num c.toNat)).size:=by rw [bs_size,bs_size,bs_size,bs_size,bs_size];omega
   have Hp:=hid hp
   obtain ⟨wo,rfl⟩ : ∃wo:World,wo=wr:=⟨_,rfl⟩
   clear hp hpl hfl k1 k2 k3 k4 s1 s2 s3 s4 s5
   unfold dv at cD
   dsimp only at cD
   have eq1:num q.length++q=textB q:=rfl
   have eq2:num bo.length++bo=textB bo:=rfl
   rw [eq1] at cQ
   rw [eq2] at cB
   clear eq1 eq2
   generalize bs A=SA at *
   generalize bs (dotB (z1,z2))=SD at *
   generalize bs (textB q)=SQ at *
   generalize bs (textB bo)=SB at *
   generalize bs (num c.toNat)=SC at *
   generalize bs q=Q at *
   generalize bs bo=BO at *
   obtain ⟨wb,hwb⟩:=qe (wo.alloc (.cells #[.int .i64 z1,.int .i64 z2,.string Q,.string BO,.int .i64 c] 43))
   have Hwb:=qh (Pure wo wb) (by rw [hwb];exact qp)
   have bb:wb.heap[wo.heap.size]?=some (.cells #[.int .i64 z1,.int .i64 z2,.string Q,.string BO,.int .i64 c] 43 (0,0)):=by rw [hwb];exact ban _ _
   have hT:Hid (∀W,Pure wb W→(W.cell? ⟨wo.heap.size,0,none⟩=some (.int .i64 z1)∧W.cell? ⟨wo.heap.size,1,none⟩=some (.int .i64 z2)∧W.cell? ⟨wo.heap.size,2,none⟩=some (.string Q)∧W.cell? ⟨wo.heap.size,3,none⟩=some (.string BO)∧W.cell? ⟨wo.heap.size,4,none⟩=some (.int .i64 c)∧Pure wb W)):=fun W hW=>by
    have e0:=(hW.block _ (lob bb)).trans bb
    exact ⟨cob e0 0,cob e0 1,cob e0 2,cob e0 3,cob e0 4,hW⟩
   have hT2:Hid (∀W:World,(W.cell? ⟨wo.heap.size,0,none⟩=some (.int .i64 z1)∧W.cell? ⟨wo.heap.size,1,none⟩=some (.int .i64 z2)∧W.cell? ⟨wo.heap.size,2,none⟩=some (.string Q)∧W.cell? ⟨wo.heap.size,3,none⟩=some (.string BO)∧W.cell? ⟨wo.heap.size,4,none⟩=some (.int .i64 c)∧Pure wb W)→Pure wb W):=fun W h=>h.2.2.2.2.2
   have htt:=hid (hT.out wb.drew qv)
   clear bb
   go_wp2_with fail
   rw [←hwb]
   clear hwb f0 d0 d1 d2 d3 d4
   go_region_held3 (fun W=>W.cell? ⟨wo.heap.size,0,none⟩=some (.int .i64 z1)∧W.cell? ⟨wo.heap.size,1,none⟩=some (.int .i64 z2)∧W.cell? ⟨wo.heap.size,2,none⟩=some (.string Q)∧W.cell? ⟨wo.heap.size,3,none⟩=some (.string BO)∧W.cell? ⟨wo.heap.size,4,none⟩=some (.int .i64 c)∧Pure wb W)
    (first|with_reducible exact htt.out|with_reducible exact hT.out _ (Pure.then_ (hT2.out _ qa) qa))
    (first
      | (go_at_call 131;with_reducible refine (cD.out _).mono ?_;rintro e w2 ⟨rfl,hp2⟩)
      | (go_at_call 132;with_reducible refine (cQ.out _).mono ?_;rintro e w2 ⟨rfl,hp2⟩)
      | (go_at_call 132;with_reducible refine (cB.out _).mono ?_;rintro e w2 ⟨rfl,hp2⟩)
      | (go_at_call 61;with_reducible refine (cC.out _).mono ?_;rintro e w2 ⟨rfl,hp2⟩))
   have Hp2:=hid ((Hp.out.then_ Hwb.out).then_ (hT2.out w2 qa))
   clear hp2 htt m1 m2 m3 m4
   go_wp2
   go_roundw
   case rel=>exact ⟨k+1,by omega,by go_num,by rw [Hstep.out,←hap.out],Hp2.out⟩
   case measure=>simp [RowKit.intOf];omega
  ·have hlt' : ¬(k:Int)<(L.length:Int):=by omega
   have e:L.take k=L:=List.take_of_length_le oe
   rw [e,←hgB.out]
   have Hp:=hid hp
   clear hp e
   go_wp2
   go_ret
   exact ⟨rfl,Hwz.out.then_ Hp.out⟩
end
section
set_option maxHeartbeats 1000000
open Go.RowKit Go.Maps
structure TkP (u:Int) (v:Value) (l:List Dot) (w:World) (e:Ending) (w' : World):Prop where
 ex:∃v',e=.returned (.tuple #[.int .i64 (takenL u l).1,v'])∧Dots w' v' (takenL u l).2∧(∀k,v'.rb=some k→v.rb=some k)
 pure:Pure w w'
theorem takenL_far {u:Int} {d:Dot} {l:List Dot} (h:u+1<d.2):takenL u (d::l)=(u,d::l):=by simp [takenL,h]
theorem takenL_near {u:Int} {d:Dot} {l:List Dot} (h:¬u+1<d.2):takenL u (d::l)=takenL (max u d.2) l:=by simp [takenL,h]
theorem taken_any (u:Int) (v:Value) (l:List Dot) (w:World) (hr:Dots w v l) (h0:0≤u) (h1:u≤1152921504606846976) (hl:∀d ∈ l,d.2≤1152921504606846976) :
 Calls Tryz.prog 182 #[.int .i64 u,v] w (TkP u v l w):=by
 have Hr:=hid hr
 have H0:=hid h0
 have H1:=hid h1
 have Hl:=hid hl
 clear hr h0 h1 hl
 go_enter Tryz.func182,Tryz.ntmps182
 go_wp2_with fail
 go_step3
 go_wp2_with fail
 go_step3
 go_wp2_with fail
 go_loopw [0,1] (fun a b wr=>∃(u' : Int) (l' : List Dot),a=.int .i64 u'∧Dots wr b l'∧takenL u' l'=takenL u l∧0≤u'∧u'≤1152921504606846976∧(∀d ∈ l',d.2≤1152921504606846976)∧(∀k,b.rb=some k→v.rb=some k)∧Pure w wr) (fun _ b _=>vlen b)
 case atStart=>exact ⟨u,l,rfl,Hr.out,rfl,H0.out,H1.out,Hl.out,fun _ h=>h,Below.refl _ _⟩
 case round =>
  obtain ⟨u',l',rfl,hd,ht,b0,b1,hls,hrb,hp⟩:=hrel
  obtain ⟨a,cap,rfl⟩:=hd.shape
  have hlen:=hd.len_le
  unfold maxLen at hlen
  have Ht:=hid ht
  have Hrb:=hid hrb
  have Hp:=hid hp
  have Hd:=hid hd
  clear ht hrb hp
  cases l' with
  | nil =>
    have hz:¬(0:Int)<(([]:List Dot).length:Int):=by simp
    clear hd hls
    go_wp2
    exact bodyPost_ret (v:=.tuple #[.int .i64 u',.slice a ([]:List Dot).length cap]) (by simp [results,Tryz.results182,go_sem]) rfl ⟨⟨_,by rw [←Ht.out];rfl,by rw [←Ht.out];exact Hd.out,Hrb.out⟩,Hp.out⟩
  | cons d l2 =>
    obtain ⟨b,off,rfl,hb,c0,c1⟩:=hd.get (k:=0) qb
    have hz:(0:Int)<((d::l2).length:Int):=by simp only [List.length_cons];omega
    have hdm:=hls d qb
    have Hls:=hid (fun x (hx:x ∈ l2)=>hls x (List.mem_cons_of_mem _ hx))
    obtain ⟨x,y⟩:=d
    simp only [List.getD_cons_zero,Nat.zero_mul,Nat.add_zero] at c0 c1
    dsimp only at hdm
    by_cases hf:u' + 1<y
    ·have Hf:=hid (takenL_far (d:=(x,y)) (l:=l2) hf)
     clear hd hls
     generalize hL:(x,y)::l2=L at *
     clear hL
     go_wp2
     exact bodyPost_ret (v:=.tuple #[.int .i64 u',.slice (some ⟨b,off,none⟩) L.length cap]) (by simp [results,Tryz.results182,go_sem]) rfl ⟨⟨_,by rw [←Ht.out,Hf.out],by rw [←Ht.out,Hf.out];exact Row.pure Hd.out qp,Hrb.out⟩,Hp.out.alloc Hp.out.size _⟩
    ·have Hf:=hid (takenL_near (d:=(x,y)) (l:=l2) hf)
     obtain ⟨v1,hv1,hrow,hrb1⟩:=slice_suf_off (P:=Tryz.prog) Tryz.underlying30 hd (k:=1) qb (.inr ⟨_,_,rfl⟩) sizeDot
     have Hrow:=hid hrow
     have Hrb1:=hid hrb1
     have hnf:¬u' + 1<y:=hf
     have hnf2:y≤u' + 1:=by omega
     clear hd hls hf hrow hrb1 hv1
     generalize hL:(x,y)::l2=L at *
     have hLl:L.length=l2.length+1:=by rw [←hL];simp
     have hcap:L.length≤cap:=by obtain ⟨_,a',c',e,q1,q2,_⟩:=Hd.out;cases e;exact q1
     have Hm:=hid (show (if u'<y then y else u')=max u' y by omega)
     have Hm1:=hid (show max u' y≤1152921504606846976 by omega)
     have Hm0:=hid (show 0≤max u' y by omega)
     have Hpa:Hid (∀o,Pure wr (wr.alloc o)):=fun o=>(Below.refl _ _).alloc (Nat.le_refl _) o
     have HL:=hid hL
     clear hL
     have hdr:(dvs L).drop (1*2)=dvs l2:=by rw [←HL.out];rfl
     by_cases hc:cap=1
     ·have Hdr:=hid hdr
      clear hdr
      go_wp2
      go_roundw
      case rel =>
       refine ⟨max u' y,l2,by rw [←Hm.out],?_,by rw [←Ht.out,←Hf.out],Hm0.out,Hm1.out,Hls.out,fun k hk=>by simp [Value.rb] at hk,Hp.out.then_ (Hpa.out _)⟩
       have:=l2.length
       obtain rfl:l2=[]:=List.eq_nil_of_length_eq_zero oe
       exact ⟨rfl,_,_,rfl,Nat.le_refl _,Nat.zero_le _,.inl rfl⟩
      case measure=>simp [vlen];omega
     ·have Hsuf:=hid (fun W (hW:Pure wr W)=>row_suf (Row.pure Hd.out hW) (k:=1) oe)
      rw [hdr,Nat.one_mul,show L.length-1=l2.length by omega] at Hsuf
      clear hdr
      go_wp2
      go_roundw
      case rel =>
       refine ⟨max u' y,l2,by rw [←Hm.out],Hsuf.out _ (Hpa.out _),by rw [←Ht.out,←Hf.out],Hm0.out,Hm1.out,Hls.out,fun k hk=>Hrb.out k ?_,Hp.out.then_ (Hpa.out _)⟩
       simp only [Value.rb] at hk ⊢
       rw [if_neg oe] at hk
       rw [if_neg oe];exact hk
      case measure=>simp [vlen];omega
end
section
open Go.RowKit Go.Maps Go.Sort
def srt (l:List Int):List Int:=l.mergeSort fun x y=>decide (x≤y)
theorem srt_len (l:List Int):(srt l).length=l.length:=by unfold srt;simp
end
section
set_option maxHeartbeats 1000000
open Go.RowKit Go.Maps Go.Sort Go.Shelf
theorem srt_perm {l k:List Int} (h:l.Perm k):srt l=srt k:=mergeSort_of_perm_i h
def anyR:Value→Option (DataW Unit × List MemPlace):=fun _=>some (.nil,[])
theorem IMap.owns {α:Type} {enc:α→Value} {w:World} {b:Nat} {m:List (Int × α)} {P:Program} {kt:TypeId} (hk:P.underlying kt=some (.int .i64)) (h:IMap enc w b m) (hl:m.length≤maxLen) :
 ∃D:DataW Unit,w.ownsMap P kt anyR b m.length D∧(intKeys D).Perm (m.map (·.1))∧Maps.size D=m.length:=by
 obtain ⟨es,clock,hb,hst,hwf,he⟩:=h
 have hlen:es.size=m.length:=by have:=congrArg List.length he;simpa using this
 have hks:=IMap.keysOf hk hwf he
 have F:WideElems.Fit P kt anyR es clock:=⟨by omega,hst,fun x hx=>by
  obtain ⟨l,hl⟩:=hks x hx
  exact ⟨(l,.nil),by simp [WideElems.rd,hl,anyR]⟩⟩
 refine ⟨_,⟨es,clock,hb,F,by omega,rfl⟩,?_,by simp [Maps.size,length_sorted,hlen]⟩
 show (((es.toList.map (WideElems.rg P kt anyR)).foldr DataW.insert []).map fun p=>Go.intOf p.1).Perm _
 refine ((WideShapes.sorted_perm (es.toList.map (WideElems.rg P kt anyR))).map _).trans ?_
 have e1:(es.toList.map (WideElems.rg P kt anyR)).map (fun p=>Go.intOf p.1)=m.map (·.1):=by
  rw [List.map_map]
  have hz:∀(l:List MapEntry) (k:List (Int × α)),l.map (fun x=>(x.key,x.val))=k.map (fun p=>(Value.int .i64 p.1,enc p.2))→(∀p ∈ k,(Lit.int .i64 p.1).wf=true)→l.map ((fun p=>Go.intOf p.1) ∘ WideElems.rg P kt anyR)=k.map (·.1):=by
   intro l
   induction l with
   | nil=>intro k hk' _;cases k with
     | nil=>rfl
     | cons _ _=>simp at hk'
   | cons x l ih =>
     intro k hk' hw
     cases k with
     | nil=>simp at hk'
     | cons p k =>
       simp only [List.map_cons,List.cons.injEq,Prod.mk.injEq] at hk' ⊢
       refine ⟨?_,ih k hk'.2 (fun q hq=>hw q (by simp [hq]))⟩
       have:=keyOf_int_mk hk (hw p qb)
       simp [WideElems.rg,WideElems.rd,hk'.1.1,this,anyR,Go.intOf]
  exact hz _ _ he hwf
 rw [e1]
theorem sortsI (m:Nat):AnyZI.SortsIn Tryz.prog Tryz.sortedI_ren Fence.wide m :=
 ⟨fun blk off cap ss W hH hblk hsz=>callsIn_wide.2 (Tryz.slices_Sort_int blk off cap ss W hH hblk hsz),
  fun p cap W=>callsIn_wide.2 (Tryz.slices_Sort_int_none p cap W)⟩
theorem keys_call (mb:Option Nat) (W:World):Calls Tryz.prog 210 #[.map mb] W fun e w' =>
 e=.returned (.func (.func 221) #[] #[.pointer (some ⟨W.heap.size,0,none⟩)])∧w'=W.alloc (.cells #[.map mb] 204) :=
 callsIn_wide.1 (AnyZI.keys_in Tryz.keysI Fence.wide 5 trivial rfl mb W)
theorem sorted_call {α:Type} (enc:α→Value) (b:Nat) (m:List (Int × α)) (w:World) (h:IMap enc w b m) (hl:m.length≤1000000) :
 Calls Tryz.prog 209 #[.func (.func 221) #[] #[.pointer (some ⟨w.heap.size,0,none⟩)]] (w.alloc (.cells #[.map (some b)] 204)) fun e w' =>
  ∃v,e=.returned v∧w'.ownsRow w.heap.size 3 1 v (srt (m.map (·.1))).length ((srt (m.map (·.1))).map (Value.int .i64))∧Pure w w':=by
 have hml:m.length≤maxLen:=by unfold maxLen;omega
 obtain ⟨D,hown,hperm,hsize⟩:=h.owns (P:=Tryz.prog) Tryz.underlying3 hml
 have hbl:=hown.lt
 have hseq:SeqGives Fence.wide 2 Tryz.prog 221 #[.pointer (some ⟨w.heap.size,0,none⟩)] encZ (fun ss=>ss.Perm (intKeys D)) (Maps.size D) (w.alloc (.cells #[.map (some b)] 204)) :=
  AnyZI.keys_gives (ρ:=Tryz.keysI_ren) { Tryz.keysI with } Fence.wide _ trivial rfl oe w.heap.size b m.length D _ qb qb (by
   obtain ⟨es,clock,hb,Ft,hs,hD⟩:=hown
   exact ⟨es,clock,(Below.heap_alloc _ _ b hbl).trans hb,Ft,hs,hD⟩)
 have cS:=AnyZI.sorted_in Tryz.sortedI Fence.wide 5 trivial trivial trivial trivial rfl oe (sortsI _) (enters_of Tryz.func220 qk rfl) 221 #[.pointer (some ⟨w.heap.size,0,none⟩)] trivial (enters_of Tryz.func221 qk rfl) _ _ (by rw [hsize];exact hml) (by rw [hsize];omega) _ hseq
 refine (callsIn_wide.1 cS).mono ?_
 rintro e w' ⟨v,ss,rfl,hS,hrow,_,hb⟩
 have e1:srt ss=srt (m.map (·.1)):=srt_perm (hS.trans hperm)
 have e2:ss.length=(srt (m.map (·.1))).length:=by rw [←e1,srt_len]
 refine ⟨v,rfl,?_,((Below.refl _ w).alloc (Nat.le_refl _) _).trans (hb.mono qb)⟩
 rw [←e1,srt_len]
 exact own_mono hrow qb
end
section
open Go.RowKit Go.Maps
def CtxF (w:World) (B C:List Dot) (e:Ending) (w' : World):Prop :=
 ∃v0 v1,e=.returned (.agg #[v0,v1])∧Dots w' v0 B∧Dots w' v1 C∧Pure w w'∧(∀k,v0.rb=some k→w.heap.size≤k)∧(∀k,v1.rb=some k→w.heap.size≤k)
theorem ctx_ret {w w4:World} {s:Nat} {x y v0 v1:Value} {B C:List Dot} (hres:w4.heap[s]?=some (.cells #[x,y] 32 (0,0))) (hs:w.heap.size≤s) (hp:Pure w w4) (hd0:Dots w4 v0 B) (hd1:Dots w4 v1 C)
 (h0:∀k,v0.rb=some k→w.heap.size≤k∧k≠s) (h1:∀k,v1.rb=some k→w.heap.size≤k∧k≠s) :
 ((w4.setCell ⟨s,0,none⟩ v0).setCell ⟨s,1,none⟩ v1).cell? ⟨s,0,none⟩=some v0∧((w4.setCell ⟨s,0,none⟩ v0).setCell ⟨s,1,none⟩ v1).cell? ⟨s,1,none⟩=some v1∧CtxF w B C (.returned (.agg #[v0,v1])) ((w4.setCell ⟨s,0,none⟩ v0).setCell ⟨s,1,none⟩ v1):=by
 have hb:=bsc (bsc hres 0 v0) 1 v1
 have hkf:Kept (fun k=>k=s) w4 ((w4.setCell ⟨s,0,none⟩ v0).setCell ⟨s,1,none⟩ v1):=(kept_set w4 _ 0 _).trans (kept_set _ _ 1 _)
 have q:Kept (fun k=>w.heap.size≤k) w ((w4.setCell ⟨s,0,none⟩ v0).setCell ⟨s,1,none⟩ v1):=hp.kept.trans (hkf.mono (fun k _ e=>by omega))
 refine ⟨by rw [cob hb 0];simp,by rw [cob hb 1];simp,_,_,rfl,Row.kept hd0 hkf (fun k hk e=>(h0 k hk).2 e),Row.kept hd1 hkf (fun k hk e=>(h1 k hk).2 e),q.below (Nat.le_refl _) (fun k hk e=>by omega),fun k hk=>(h0 k hk).1,fun k hk=>(h1 k hk).1⟩
def RsC (s:Nat) (W:World):Prop:=W.heap[s]?=some (.cells #[.slice none 0 0,.slice none 0 0] 32 (0,0))
theorem RsC.go {s:Nat} {W W' : World} (h:Hid (RsC s W)) (hp:Pure W W'):Hid (RsC s W')∧W'.cell? ⟨s,0,none⟩=some (.slice none 0 0)∧W'.cell? ⟨s,1,none⟩=some (.slice none 0 0)∧W'.frozen? ⟨s,0,none⟩=false∧W'.frozen? ⟨s,1,none⟩=false:=by
 have e:RsC s W':=(hp.block _ (lob h.out)).trans h.out
 exact ⟨e,cob e 0,cob e 1,fob e 0,fob e 1⟩
end
section
open Go.RowKit Go.Maps
theorem flat_filter_len:∀(N:List Int) (l:List Dot),N.Pairwise (·< ·)→(N.flatMap fun x=>l.filter fun d=>d.1 == x).length≤l.length
 | [],l,_=>by simp
 | x::N,l,h=>by
   rw [List.pairwise_cons] at h
   have ih:=flat_filter_len N (l.filter fun d=>!(d.1 == x)) h.2
   have e:(N.flatMap fun y=>l.filter fun d=>d.1 == y)=(N.flatMap fun y=>(l.filter fun d=>!(d.1 == x)).filter fun d=>d.1 == y):=by
    have e2:∀y ∈ N,(l.filter fun d=>d.1 == y)=((l.filter fun d=>!(d.1 == x)).filter fun d=>d.1 == y):=fun y hy=>by
     rw [List.filter_filter]
     apply List.filter_congr
     intro d _
     have:=h.1 y hy
     by_cases hd:d.1=y
     ·have:¬d.1=x:=by omega
      simp [hd];omega
     ·simp [hd]
    clear ih
    rw [List.flatMap_def,List.flatMap_def]
    congr 1
    exact List.map_congr_left e2
   rw [List.flatMap_cons,List.length_append,e]
   have hc:(l.filter fun d=>d.1 == x).length+(l.filter fun d=>!(d.1 == x)).length=l.length:=by
    clear ih e
    induction l with
    | nil=>rfl
    | cons a r ihr=>by_cases ha:a.1=x <;> simp [ha] <;> omega
   omega
theorem jo_len (aB bB cl:List Dot) (x:Int):(jo aB bB cl x).length≤((dsort cl).filter fun d=>d.1 == x).length:=by
 have h2:=(cfold_bd (max (cbase aB x) (cbase bB x)) ((dsort cl).filter fun d=>d.1 == x) _ (Nat.le_refl _)).2.2
 rw [List.take_length] at h2
 exact h2
theorem flat_le (aB bB cl:List Dot):∀N:List Int,(N.flatMap (jo aB bB cl)).length≤(N.flatMap fun x=>(dsort cl).filter fun d=>d.1 == x).length
 | []=>by simp
 | x::N=>by
   have:=flat_le aB bB cl N
   have:=jo_len aB bB cl x
   simp only [List.flatMap_cons,List.length_append];omega
theorem jfoldL_bd (aB bB cl:List Dot) (N:List Int) (hN:N.Pairwise (·< ·)) (k:Nat):((N.take k).foldl (jstep aB bB cl) ([],[])).1.length≤k∧((N.take k).foldl (jstep aB bB cl) ([],[])).2.length≤cl.length:=by
 rw [jfold_eq]
 constructor
 ·have e:∀M:List Int,(M.flatMap (fun x=>if 0<jk aB bB cl x then [(x,jk aB bB cl x)] else [])).length≤M.length:=fun M=>by
   induction M with
   | nil=>simp
   | cons x M ih =>
     have h1:(if 0<jk aB bB cl x then [(x,jk aB bB cl x)] else ([]:List Dot)).length≤1:=by split <;> simp
     rw [List.flatMap_cons,List.length_append,List.length_cons];omega
  have:=e (N.take k)
  have:=List.length_take_le k N
  simp only [List.nil_append];omega
 ·have h1:=flat_le aB bB cl (N.take k)
  have h2:=flat_filter_len (N.take k) (dsort cl) (hN.sublist (List.take_sublist _ _))
  have h3:=dsort_len cl
  simp only [List.nil_append];omega
theorem rjoinL_any (va0 va1 vb0 vb1:Value) (aB aC bB bC:List Dot) (w:World) (h1:Dots w va0 aB) (h2:Dots w va1 aC) (h3:Dots w vb0 bB) (h4:Dots w vb1 bC) (hl:aB.length+aC.length+bB.length+bC.length≤3000) (hb1:∀d ∈ aB,0≤d.2∧d.2≤1152921504606846976) (hb2:∀d ∈ bB,0≤d.2∧d.2≤1152921504606846976) :
 Calls Tryz.prog 50 #[.agg #[va0,va1],.agg #[vb0,vb1]] w fun r w'=>∃v0 v1,r=.returned (.agg #[v0,v1])∧Dots w' v0 (cjoin aB aC bB bC).1∧Dots w' v1 (cjoin aB aC bB bC).2∧Pure w w'∧(∀k,v0.rb=some k→w.heap.size≤k)∧(∀k,v1.rb=some k→w.heap.size≤k) :=
 rjoin_gen va0 va1 vb0 vb1 aB aC bB bC w h1 h2 h3 h4 hl hb1 hb2 (fun k _=>by
  obtain ⟨f1,f2⟩:=jfoldL_bd aB bB (aC++bC) _ (cnodes_spec (aB++bB) (aC++bC)).1 k
  refine ⟨f1,?_⟩
  have:(aC++bC).length≤3000:=by rw [List.length_append];omega
  omega)
end
section
set_option maxHeartbeats 2000000
open Go.RowKit Go.Maps
theorem mdsame_any (v u:Value) (l k:List Dot) (w:World) (hv:Dots w v l) (hu:Dots w u k) :
 Calls Tryz.prog 172 #[v,u] w fun e w'=>e=.returned (.bool (decide (l=k)))∧Pure w w':=by
 obtain ⟨a,ca,rfl⟩:=hv.shape
 obtain ⟨b,cb,rfl⟩:=hu.shape
 have h2:l.length≤maxLen:=Row.len_le hv
 have h4:k.length≤maxLen:=Row.len_le hu
 unfold maxLen at h2 h4
 have Hv:=hid hv
 have Hu:=hid hu
 have heq:=dot_eqIn
 clear hv hu
 by_cases hl:l.length=k.length
 ·have hne:((l.length:Int) != (k.length:Int))=false:=by simp [hl]
  have hl1:l.length≤k.length:=by omega
  have hl2:k.length≤l.length:=by omega
  have Hl:=hid hl
  clear hl
  go_enter Tryz.func172,Tryz.ntmps172
  go_wp2
  go_loopw [5,13] (fun _ x wr=>∃i:Nat,i≤l.length∧x=.int .i64 i∧l.take i=k.take i∧∃n,wr=w.drewN n) (fun _ x _=>l.length-(RowKit.intOf x).toNat)
  case atStart=>exact ⟨0,Nat.zero_le _,rfl,by simp,0,rfl⟩
  case round =>
   obtain ⟨i,hi,rfl,ht,n,rfl⟩:=hrel
   by_cases hlt:i<l.length
   ·have hlk:i<k.length:=by omega
    obtain ⟨ba,oa,rfl,_,c0,c1⟩:=Dots.get Hv.out hlt
    obtain ⟨bb,ob,rfl,_,d0,d1⟩:=Dots.get Hu.out hlk
    have Hs:=hid (dsame_take ht hlt hlk)
    have Hn:=hid (@dsame_not l k i)
    have hlt' : (i:Int)<(l.length:Int):=by omega
    have hlk' : (i:Int)<(k.length:Int):=by omega
    clear ht
    generalize l.getD i (0,0)=x at *
    generalize k.getD i (0,0)=y at *
    obtain ⟨x1,x2⟩:=x
    obtain ⟨y1,y2⟩:=y
    dsimp only at c0 c1 d0 d1
    by_cases hxy:x1=y1∧x2=y2
    ·obtain ⟨rfl,rfl⟩:=hxy
     have Hs':=hid (Hs.out rfl)
     clear Hs Hn
     go_wp2_with fail
     go_quiet (fail)
     go_wp2
     go_roundw
     case rel=>exact ⟨i+1,by omega,by go_num,Hs'.out,_,rfl⟩
     case measure=>simp [RowKit.intOf];omega
    ·have hb:(decide (x1=y1) && decide (x2=y2))=false:=by simpa using hxy
     have Hf:=hid (Hn.out (fun e=>hxy (by cases e;exact ⟨rfl,rfl⟩)))
     clear hxy Hs Hn
     go_wp2_with fail
     go_quiet (fail)
     go_wp2
     go_ret
     exact ⟨ret_bool Hf.out.symm,(pdN _ n).then_ (pdN _ _)⟩
   ·have e:i=l.length:=by omega
    subst e
    have hlt' : ¬(l.length:Int)<(l.length:Int):=by omega
    have Hf:=hid (dsame_full Hl.out ht)
    clear ht
    go_wp2
    go_ret
    exact ⟨ret_bool Hf.out.symm,pdN _ _⟩
 ·have Hf:=hid (dsame_short hl)
  have hne:((l.length:Int) != (k.length:Int))=true:=by simp;omega
  go_enter Tryz.func172,Tryz.ntmps172
  go_wp2
  go_ret
  exact ⟨ret_bool Hf.out.symm,Below.refl _ _⟩
theorem mcsame_any (va vb vc vd:Value) (A B C D:List Dot) (w:World) (h1:Dots w va A) (h2:Dots w vb B) (h3:Dots w vc C) (h4:Dots w vd D) :
 Calls Tryz.prog 133 #[.agg #[va,vb],.agg #[vc,vd]] w fun e w'=>e=.returned (.bool (decide (A=C) && decide (B=D)))∧Pure w w':=by
 obtain ⟨wz,hwz⟩:=qe ((w.alloc (.cells #[va,vb] 32)).alloc (.cells #[vc,vd] 32))
 have Hwz:=qh (Pure w wz) (by rw [hwz];exact qp.alloc qb _)
 have b0:wz.heap[w.heap.size]?=some (.cells #[va,vb] 32 (0,0)):=by rw [hwz];exact bao (ban _ _) _
 have b1:wz.heap[w.heap.size+1]?=some (.cells #[vc,vd] 32 (0,0)):=by
  rw [hwz];have:=ban (w.alloc (.cells #[va,vb] 32)) (.cells #[vc,vd] 32)
  simpa using this
 have hp:=hid (fun W (hW:Pure wz W)=>Hwz.out.then_ hW)
 have s1:=hid (fun W (hW:Pure wz W)=>mdsame_any va vc A C W (Row.pure h1 (hp.out W hW)) (Row.pure h3 (hp.out W hW)))
 have s2:=hid (fun W (hW:Pure wz W)=>mdsame_any vb vd B D W (Row.pure h2 (hp.out W hW)) (Row.pure h4 (hp.out W hW)))
 obtain ⟨a0,c0,rfl⟩:=h1.shape
 obtain ⟨a1,c1,rfl⟩:=h2.shape
 obtain ⟨a2,c2,rfl⟩:=h3.shape
 obtain ⟨a3,c3,rfl⟩:=h4.shape
 have B0:=hid b0
 have B1:=hid b1
 clear h1 h2 h3 h4 b0 b1
 generalize decide (A=C)=X at *
 generalize decide (B=D)=Y at *
 go_enter Tryz.func133,Tryz.ntmps133
 go_wp2_with fail
 rw [←hwz]
 clear hwz
 refine (s1.out wz (Below.refl _ _)).mono ?_
 rintro e w1 ⟨rfl,hp1⟩
 have e0:=(hp1.block _ (lob B0.out)).trans B0.out
 have e1:=(hp1.block _ (lob B1.out)).trans B1.out
 have f0:w1.cell? ⟨w.heap.size,1,none⟩=some (.slice a1 B.length c1):=cob e0 1
 have f1:w1.cell? ⟨w.heap.size+1,1,none⟩=some (.slice a3 D.length c3):=cob e1 1
 have Hp1:=hid hp1
 clear e0 e1 hp1
 cases X with
 | false =>
   go_wp2
   go_ret
   exact ⟨rfl,hp.out w1 Hp1.out⟩
 | true =>
   go_wp2_with fail
   refine (s2.out w1 Hp1.out).mono ?_
   rintro e w2 ⟨rfl,hp2⟩
   have Hp2:=hid ((hp.out w1 Hp1.out).then_ hp2)
   clear hp2
   go_wp2
   go_ret
   exact ⟨rfl,Hp2.out⟩
end
section
open Go.RowKit Go.Maps
theorem nodup_sub_len {α:Type} [DecidableEq α]:∀{l k:List α},l.Nodup→(∀x ∈ l,x ∈ k)→l.length≤k.length
 | [],_,_,_=>by simp
 | a::l,k,h,hs=>by
   obtain ⟨h1,h2⟩:=List.nodup_cons.1 h
   have ha:=hs a qb
   have:=nodup_sub_len (k:=k.erase a) h2 (fun x hx=>(List.mem_erase_of_ne (fun (e:x=a)=>h1 (by rw [←e];exact hx))).2 (hs x (List.mem_cons_of_mem _ hx)))
   rw [List.length_erase_of_mem ha] at this
   have h0:0<k.length:=List.length_pos_of_mem ha
   simp only [List.length_cons];omega
theorem rise_nodup {l:List Dot} (h:Rise l):l.Nodup:=List.Pairwise.imp (R:=DL) (S:=fun a b=>a≠b) (fun {a b} hab (e:a=b)=>DL.irrefl a (by rw [←e] at hab;exact hab)) h
theorem flat_len1 {α β:Type} (f:α→List β) (hf:∀x,(f x).length≤1):∀l:List α,(l.flatMap f).length≤l.length
 | []=>by simp
 | a::l=>by
   have:=flat_len1 f hf l
   have:=hf a
   simp only [List.flatMap_cons,List.length_append,List.length_cons];omega
theorem cjoin_len {aB aC bB bC:List Dot} (ha:CWk aB aC) (hb:CWk bB bC):(cjoin aB aC bB bC).1.length≤aB.length+bB.length+(aC.length+bC.length)∧(cjoin aB aC bB bC).2.length≤aC.length+bC.length:=by
 constructor
 ·rw [cjoin_eq]
  refine Nat.le_trans (flat_len1 _ (fun x=>?_) _) (Nat.le_trans (cnodes_len _ _) qb)
  split <;> simp
 ·have hr:=(cjoin_ok ha hb).1.cr
  have:=nodup_sub_len (rise_nodup hr) (k:=aC++bC) (fun d hd=>by
   obtain ⟨x,_,hx⟩:=jcloud_mem.1 hd
   exact ((jx ha hb x).2.2.2.1 d hx).1)
  simpa using this
theorem COk.one {d:Dot} (h:dok d):COk [d] []:=⟨List.pairwise_singleton _ _,by simpa using h,List.Pairwise.nil,by simp,by simp⟩
theorem CWk.cloud {C:List Dot} (h:∀d ∈ C,dok d):CWk [] C:=⟨List.Pairwise.nil,by simp,h⟩
theorem adds_ok (l:List Dot):∀d ∈ dsort (l.filter dchk),dok d:=fun d hd=>dchk_iff.1 (List.mem_filter.1 (((dsort_spec _).2 d).1 hd)).2
end
end Go.Proofs.YtdlpnhfgjficgaaGreat
