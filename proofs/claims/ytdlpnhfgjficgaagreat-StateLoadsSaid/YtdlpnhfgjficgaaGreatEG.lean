import Derived.Test.YtdlpnhfgjficgaaGreatMX46
set_option maxHeartbeats 4000000
set_option maxRecDepth 8000
namespace Go.Proofs.YtdlpnhfgjficgaaGreat
open Go.RowKit Go.Maps Go.Shelf
theorem rtread_any (b:Nat) (s:RS) (w:World) (h:RdAt 98 b s w) :
 Calls Tryz.prog 55 #[.pointer (some ⟨b,0,none⟩)] w (RdRowG tcells 2 98 b (rdTags s).1 (rdTags s).2 w):=by
 have hi1:=hid (rintr_any b s 100 w h qd qd)
 have hbd:=rdInt_bd 100 s
 have hz:=rdInt_zero 100 s
 have Hr:Hid (rdTags s=match rdItems rdTag (rdInt 100 s).1.toNat [] (rdInt 100 s).2 with
  | (_,none)=>([],none)
  | (l,some r)=>if tchk l then (l,some r) else ([],none)):=(show _=_ from rfl)
 have htext:=hid (fun s W (hW:RdAt 98 b s W)=>rtextr_any b s 100 W hW qd qd)
 have hcnt:=hid (fun s W (hW:RdAt 98 b s W)=>rintr_any b s 1048576 W hW qd qd)
 have hck:=hid (fun v l W (hW:GRow tcells 2 W v l) hl=>rtchk_any v l W hW hl)
 have Hw:=qh (RdOwn tcells 2 90 98 b (.slice none 0 0) [] s w w) (⟨RdK.start h,World.ownsRow_nil _ _ _ _,h.lt⟩)
 unfold RdP at hi1 htext hcnt
 generalize rdTags s=R at *
 generalize rdInt 100 s=N1 at *
 obtain ⟨x,s1⟩:=N1
 dsimp only at hi1 hbd Hr hz
 obtain ⟨n,rfl⟩ : ∃n:Nat,x=n:=⟨x.toNat,by omega⟩
 have Hr2:=hid Hr.out
 rw [Int.toNat_natCast] at Hr2
 have Hst:=hid (RdIn.start rdTag n s1 (fun e=>by have:=hz e;omega))
 obtain ⟨total,htot⟩:=qe (rdItems rdTag n [] s1)
 rw [←htot] at Hr2 Hst
 have hbn:=hbd.2 oe
 clear h hbd Hr htot hz
 go_enter Tryz.func55,Tryz.ntmps55
 go_wp2_with fail
 refine hi1.out.mono ?_
 rintro e w1 ⟨rfl,hr1,hk1⟩
 have H1:=hid (Hw.out.next hr1 hk1)
 clear hr1 hk1
 go_wp2_with fail
 go_loopw [4,5] (fun v i wr=>∃(k:Nat) (acc:List Tag) (s:RS),i=.int .i64 k∧k≤n∧acc.length=k∧RdOwn tcells 2 90 98 b v acc s w wr∧RdIn rdTag total (n-k) acc s) (fun _ i _=>n-(RowKit.intOf i).toNat)
 case atStart=>exact ⟨0,[],s1,rfl,Nat.zero_le _,rfl,H1.out,Hst.out⟩
 case round =>
  obtain ⟨k,acc,s,rfl,hkn,hlen,hI,hin⟩:=hrel
  have HI:=hid hI
  have Hin:=hid hin
  have Hlen:=hid hlen
  have hlm:acc.length≤100:=by omega
  obtain ⟨a,c,rfl⟩:=osd hI.own
  obtain ⟨l0,t,q0,q1,g0,g1,ht,-⟩:=hI.r.r.parts
  clear hI hin hlen
  by_cases hlt:k<n∧s≠none
  ·obtain ⟨hkn',hs⟩:=hlt
   have ht' : t=false:=by rw [ht];cases s;exact absurd rfl hs;rfl
   subst ht'
   have hlt' : (k:Int)<(n:Int):=by omega
   have Hstep:=hid (RdIn.step (f:=rdTag) (m:=n-(k+1)) rfl (by have:=Hin.out;rw [show n-k=(n-(k+1))+1 by omega] at this;exact this))
   clear ht hs
   have hM:rdTag s=(((rdX 100 s).1,(rdInt 1048576 (rdX 100 s).2).1),(rdInt 1048576 (rdX 100 s).2).2):=rfl
   rw [hM] at Hstep
   have j0:=hid (htext.out s)
   have j1:=hid (hcnt.out (rdX 100 s).2)
   clear hM
   generalize rdInt 1048576 (rdX 100 s).2=N1 at *
   generalize rdX 100 s=N0 at *
   obtain ⟨q,t0⟩:=N0
   obtain ⟨ct,t1⟩:=N1
   dsimp only at j0 j1 Hstep
   go_wp2_with fail
   refine (j0.out wr HI.out.r.r).mono ?_
   clear q0 q1 g0 g1
   rintro e w3 ⟨rfl,hr3,hk3⟩
   have I3:=hid (HI.out.next hr3 hk3)
   obtain ⟨y3,hy3⟩:=qe (w3.alloc (.cells #[.string (bs q),.int .i64 0] 90))
   have J3:=qh (RdOwn tcells 2 90 98 b (.slice a acc.length c) acc t0 w y3) (by rw [hy3];exact I3.out.alloc _)
   have M3:=qh (y3.heap[w3.heap.size]?=some (.cells #[.string (bs q),.int .i64 0] 90 (0,0))) (by rw [hy3];exact ban _ _)
   have nm:=qh (w.heap.size≤w3.heap.size∧(∀j,(Value.slice a acc.length c).ownBlock=some j→j≠w3.heap.size)) (⟨I3.out.r.k.size,fun j hj e=>by have:=(I3.out.own.lt j hj).2;omega⟩)
   clear hr3 hk3 I3 j0
   go_wp2_with fail
   rw [←hy3]
   clear hy3
   generalize w3.heap.size=m at *
   refine (j1.out y3 J3.out.r.r).mono ?_
   rintro e w4 ⟨rfl,hr4,hk4⟩
   have I4:=hid (J3.out.next hr4 hk4)
   have M4':=hid (block_kept M3.out hk4 (by have:=nm.out.1;have:=J3.out.wb;omega))
   have e1:=cob M4'.out 1
   have f1:=fob M4'.out 1
   simp at e1
   obtain ⟨y4,hy4⟩:=qe (w4.setCell ⟨m,1,none⟩ (.int .i64 ct))
   have J4:=qh (RdOwn tcells 2 90 98 b (.slice a acc.length c) acc t1 w y4) (by rw [hy4];exact I4.out.set nm.out.1 nm.out.2 _)
   have M4:=qh (y4.heap[m]?=some (.cells #[.string (bs q),.int .i64 ct] 90 (0,0))) (by rw [hy4];have:=bsc M4'.out 1 (.int .i64 ct);simpa using this)
   clear hr4 hk4 I4 M4' J3 M3 j1
   go_upto_region 8 with fail
   rw [←hy4]
   clear hy4 e1 f1
   have g0:=cob M4.out 0
   have g1:=cob M4.out 1
   simp at g0 g1
   have hs6:w.heap.size≤(y4.alloc (.cells #[.string (bs q),.int .i64 ct] 90)).heap.size:=by have:=J4.out.r.k.size;simp;omega
   go_wp2_with (at_builtin;refine wpList_append_tags rfl _ _ rfl w.heap.size _ acc acc.length rfl (J4.out.own.alloc _) _ [((q,ct):Tag)] 1 rfl (tags_lit y4 ((q,ct):Tag)) oe hs6 ?_)
   intro v7 w7 hown7 hg7
   have Hown7:=qh (w7.ownsRow w.heap.size 90 2 v7 (acc++[((q,ct):Tag)]).length (gvs tcells (acc++[((q,ct):Tag)]))) (by rw [List.length_append];exact hown7)
   have J9:=hid ((J4.out.alloc _).grow hg7 Hown7.out)
   obtain ⟨a7,c7,rfl⟩:=osd hown7
   clear hown7 hg7 g0 g1 hs6
   go_wp2
   go_roundw
   case rel=>exact ⟨k+1,acc++[((q,ct):Tag)],t1,by go_num,by omega,by simp [Hlen.out],J9.out,Hstep.out⟩
   case measure=>simp [RowKit.intOf];omega
  ·have hcb:=hid (fun W (hW:GRow tcells 2 W (.slice a acc.length c) acc)=>hck.out _ acc W hW oe)
   unfold er1 at hcb
   have hxx:(¬(k:Int)<(n:Int))∨((k:Int)<(n:Int)∧t=true):=by
    by_cases h:k<n
    ·right
     refine ⟨by omega,?_⟩
     rw [ht]
     cases s
     ·rfl
     ·exact absurd ⟨h,by simp⟩ hlt
    ·left;omega
   have Hout:=qh ((∃r,s=some r∧t=false∧¬(k:Int)<(n:Int)∧R=if tchk acc then (acc,some r) else ([],none))∨(s=none∧t=true∧R=([],none))) (by
    cases s with
    | none=>exact .inr ⟨rfl,ht,by rw [Hr2.out,show total=([],none) from Hin.out]⟩
    | some r =>
      have hk:k=n:=by
       by_cases h:k<n
       ·exact absurd ⟨h,by simp⟩ hlt
       ·omega
      subst hk
      have htt:=RdIn.fin (show RdIn rdTag total 0 acc (some r) by have:=Hin.out;rwa [Nat.sub_self] at this)
      exact .inl ⟨r,rfl,ht,Int.lt_irrefl _,by rw [Hr2.out,htt]⟩)
   clear hlt ht Hin
   generalize tchk acc=V at *
   rcases Hout.out with ⟨r,hs,rfl,hx,hR⟩|⟨hs,rfl,hR⟩
   ·subst hs
    have HRr:=hid hR
    clear hR hxx
    go_wp2_with fail
    refine (hcb.out wr HI.out.row).mono ?_
    rintro e w3 ⟨rfl,hp3⟩
    have J3:=hid (HI.out.pure hp3)
    clear hp3 q0 q1 g0 g1
    obtain ⟨l1,t1,q0,q1,g0,g1,-,-⟩:=J3.out.r.r.parts
    have JT:=hid (J3.out.r.tear)
    cases V
    ·have HR:=qh (R=([],none)) (HRr.out)
     go_wp2
     go_ret
     exact ⟨_,rfl,by rw [HR.out];exact Row.nil _ _,fun k hk=>by simp [Value.rb] at hk,by rw [HR.out];exact JT.out.r,JT.out.k⟩
    ·have HR:=qh (R=(acc,some r)) (HRr.out)
     go_wp2
     go_ret
     exact J3.out.done (by rw [HR.out]) (by rw [HR.out])
   ·subst hs
    have HR:=hid hR
    have JT:=hid (HI.out.r.tear)
    clear hR
    rcases hxx with hx|⟨hx,-⟩
    all_goals
     go_wp2
     go_ret
     exact ⟨_,rfl,by rw [HR.out];exact Row.nil _ _,fun k hk=>by simp [Value.rb] at hk,by rw [HR.out];exact JT.out.r,JT.out.k⟩
theorem rvread_any (b:Nat) (s:RS) (w:World) (h:RdAt 98 b s w) :
 Calls Tryz.prog 57 #[.pointer (some ⟨b,0,none⟩)] w (RdRowG pcells 3 98 b (rdView s).1 (rdView s).2 w):=by
 have hi1:=hid (rintr_any b s 64 w h qd qd)
 have hbd:=rdInt_bd 64 s
 have hz:=rdInt_zero 64 s
 have Hr:Hid (rdView s=match rdItems rdPeer (rdInt 64 s).1.toNat [] (rdInt 64 s).2 with
  | (_,none)=>([],none)
  | (l,some r)=>if vchk l then (l,some r) else ([],none)):=(show _=_ from rfl)
 have hp40:=hid (fun s W (hW:RdAt 98 b s W)=>rintr_any b s 1099511627776 W hW qd qd)
 have hp30:=hid (fun s W (hW:RdAt 98 b s W)=>rintr_any b s 1073741824 W hW qd qd)
 have hp2:=hid (fun s W (hW:RdAt 98 b s W)=>rintr_any b s 2 W hW qd qd)
 have hck:=hid (fun v l W (hW:GRow pcells 3 W v l) hl=>rvchk_any v l W hW hl)
 have Hw:=qh (RdOwn pcells 3 92 98 b (.slice none 0 0) [] s w w) (⟨RdK.start h,World.ownsRow_nil _ _ _ _,h.lt⟩)
 unfold RdP at hi1 hp40 hp30 hp2
 generalize rdView s=R at *
 generalize rdInt 64 s=N1 at *
 obtain ⟨x,s1⟩:=N1
 dsimp only at hi1 hbd Hr hz
 obtain ⟨n,rfl⟩ : ∃n:Nat,x=n:=⟨x.toNat,by omega⟩
 have Hr2:=hid Hr.out
 rw [Int.toNat_natCast] at Hr2
 have Hst:=hid (RdIn.start rdPeer n s1 (fun e=>by have:=hz e;omega))
 obtain ⟨total,htot⟩:=qe (rdItems rdPeer n [] s1)
 rw [←htot] at Hr2 Hst
 have hbn:=hbd.2 oe
 clear h hbd Hr htot hz
 go_enter Tryz.func57,Tryz.ntmps57
 go_wp2_with fail
 refine hi1.out.mono ?_
 rintro e w1 ⟨rfl,hr1,hk1⟩
 have H1:=hid (Hw.out.next hr1 hk1)
 clear hr1 hk1
 go_wp2_with fail
 go_loopw [4,5] (fun v i wr=>∃(k:Nat) (acc:List Pr) (s:RS),i=.int .i64 k∧k≤n∧acc.length=k∧RdOwn pcells 3 92 98 b v acc s w wr∧RdIn rdPeer total (n-k) acc s) (fun _ i _=>n-(RowKit.intOf i).toNat)
 case atStart=>exact ⟨0,[],s1,rfl,Nat.zero_le _,rfl,H1.out,Hst.out⟩
 case round =>
  obtain ⟨k,acc,s,rfl,hkn,hlen,hI,hin⟩:=hrel
  have HI:=hid hI
  have Hin:=hid hin
  have Hlen:=hid hlen
  have hlm:acc.length≤64:=by omega
  obtain ⟨a,c,rfl⟩:=osd hI.own
  obtain ⟨l0,t,q0,q1,g0,g1,ht,-⟩:=hI.r.r.parts
  clear hI hin hlen
  by_cases hlt:k<n∧s≠none
  ·obtain ⟨hkn',hs⟩:=hlt
   have ht' : t=false:=by rw [ht];cases s;exact absurd rfl hs;rfl
   subst ht'
   have hlt' : (k:Int)<(n:Int):=by omega
   have Hstep:=hid (RdIn.step (f:=rdPeer) (m:=n-(k+1)) rfl (by have:=Hin.out;rw [show n-k=(n-(k+1))+1 by omega] at this;exact this))
   clear ht hs
   have hM:rdPeer s=((⟨(rdInt 1099511627776 s).1,(rdInt 1073741824 (rdInt 1099511627776 s).2).1,(rdInt 2 (rdInt 1073741824 (rdInt 1099511627776 s).2).2).1⟩ : Pr),(rdInt 2 (rdInt 1073741824 (rdInt 1099511627776 s).2).2).2):=rfl
   rw [hM] at Hstep
   have j0:=hid (hp40.out s)
   have j1:=hid (hp30.out (rdInt 1099511627776 s).2)
   have j2:=hid (hp2.out (rdInt 1073741824 (rdInt 1099511627776 s).2).2)
   clear hM
   generalize rdInt 2 (rdInt 1073741824 (rdInt 1099511627776 s).2).2=N2 at *
   generalize rdInt 1073741824 (rdInt 1099511627776 s).2=N1 at *
   generalize rdInt 1099511627776 s=N0 at *
   obtain ⟨qi,t0⟩:=N0
   obtain ⟨qn,t1⟩:=N1
   obtain ⟨qs,t2⟩:=N2
   dsimp only at j0 j1 j2 Hstep
   go_wp2_with fail
   refine (j0.out wr HI.out.r.r).mono ?_
   clear q0 q1 g0 g1
   rintro e w3 ⟨rfl,hr3,hk3⟩
   have I3:=hid (HI.out.next hr3 hk3)
   obtain ⟨y3,hy3⟩:=qe (w3.alloc (.cells #[.int .i64 qi,.int .i64 0,.int .i64 0] 92))
   have J3:=qh (RdOwn pcells 3 92 98 b (.slice a acc.length c) acc t0 w y3) (by rw [hy3];exact I3.out.alloc _)
   have M3:=qh (y3.heap[w3.heap.size]?=some (.cells #[.int .i64 qi,.int .i64 0,.int .i64 0] 92 (0,0))) (by rw [hy3];exact ban _ _)
   have nm:=qh (w.heap.size≤w3.heap.size∧(∀j,(Value.slice a acc.length c).ownBlock=some j→j≠w3.heap.size)) (⟨I3.out.r.k.size,fun j hj e=>by have:=(I3.out.own.lt j hj).2;omega⟩)
   clear hr3 hk3 I3 j0
   go_wp2_with fail
   rw [←hy3]
   clear hy3
   generalize w3.heap.size=m at *
   refine (j1.out y3 J3.out.r.r).mono ?_
   rintro e w4 ⟨rfl,hr4,hk4⟩
   have I4:=hid (J3.out.next hr4 hk4)
   have M4':=hid (block_kept M3.out hk4 (by have:=nm.out.1;have:=J3.out.wb;omega))
   have e1:=cob M4'.out 1
   have f1:=fob M4'.out 1
   simp at e1
   obtain ⟨y4,hy4⟩:=qe (w4.setCell ⟨m,1,none⟩ (.int .i64 qn))
   have J4:=qh (RdOwn pcells 3 92 98 b (.slice a acc.length c) acc t1 w y4) (by rw [hy4];exact I4.out.set nm.out.1 nm.out.2 _)
   have M4:=qh (y4.heap[m]?=some (.cells #[.int .i64 qi,.int .i64 qn,.int .i64 0] 92 (0,0))) (by rw [hy4];have:=bsc M4'.out 1 (.int .i64 qn);simpa using this)
   clear hr4 hk4 I4 M4' J3 M3 j1
   go_wp2_with fail
   rw [←hy4]
   clear hy4 e1 f1
   refine (j2.out y4 J4.out.r.r).mono ?_
   rintro e w5 ⟨rfl,hr5,hk5⟩
   have I5:=hid (J4.out.next hr5 hk5)
   have M5':=hid (block_kept M4.out hk5 (by have:=nm.out.1;have:=J4.out.wb;omega))
   have e1:=cob M5'.out 2
   have f1:=fob M5'.out 2
   simp at e1
   obtain ⟨y5,hy5⟩:=qe (w5.setCell ⟨m,2,none⟩ (.int .i64 qs))
   have J5:=qh (RdOwn pcells 3 92 98 b (.slice a acc.length c) acc t2 w y5) (by rw [hy5];exact I5.out.set nm.out.1 nm.out.2 _)
   have M5:=qh (y5.heap[m]?=some (.cells #[.int .i64 qi,.int .i64 qn,.int .i64 qs] 92 (0,0))) (by rw [hy5];have:=bsc M5'.out 2 (.int .i64 qs);simpa using this)
   clear hr5 hk5 I5 M5' J4 M4 j2
   go_upto_region 9 with fail
   rw [←hy5]
   clear hy5 e1 f1
   have g0:=cob M5.out 0
   have g1:=cob M5.out 1
   have g2:=cob M5.out 2
   simp at g0 g1 g2
   have hs6:w.heap.size≤(y5.alloc (.cells #[.int .i64 qi,.int .i64 qn,.int .i64 qs] 92)).heap.size:=by have:=J5.out.r.k.size;simp;omega
   go_wp2_with (at_builtin;refine own_append_p rfl _ _ rfl w.heap.size _ acc acc.length rfl (J5.out.own.alloc _) _ [(⟨qi,qn,qs⟩ : Pr)] 1 rfl (peers_lit y5 (⟨qi,qn,qs⟩ : Pr)) oe hs6 ?_)
   intro v7 w7 hown7 hg7
   have Hown7:=qh (w7.ownsRow w.heap.size 92 3 v7 (acc++[(⟨qi,qn,qs⟩ : Pr)]).length (gvs pcells (acc++[(⟨qi,qn,qs⟩ : Pr)]))) (by rw [List.length_append];exact hown7)
   have J9:=hid ((J5.out.alloc _).grow hg7 Hown7.out)
   obtain ⟨a7,c7,rfl⟩:=osd hown7
   clear hown7 hg7 g0 g1 g2 hs6
   go_wp2
   go_roundw
   case rel=>exact ⟨k+1,acc++[(⟨qi,qn,qs⟩ : Pr)],t2,by go_num,by omega,by simp [Hlen.out],J9.out,Hstep.out⟩
   case measure=>simp [RowKit.intOf];omega
  ·have hcb:=hid (fun W (hW:GRow pcells 3 W (.slice a acc.length c) acc)=>hck.out _ acc W hW oe)
   unfold er1 at hcb
   have hxx:(¬(k:Int)<(n:Int))∨((k:Int)<(n:Int)∧t=true):=by
    by_cases h:k<n
    ·right
     refine ⟨by omega,?_⟩
     rw [ht]
     cases s
     ·rfl
     ·exact absurd ⟨h,by simp⟩ hlt
    ·left;omega
   have Hout:=qh ((∃r,s=some r∧t=false∧¬(k:Int)<(n:Int)∧R=if vchk acc then (acc,some r) else ([],none))∨(s=none∧t=true∧R=([],none))) (by
    cases s with
    | none=>exact .inr ⟨rfl,ht,by rw [Hr2.out,show total=([],none) from Hin.out]⟩
    | some r =>
      have hk:k=n:=by
       by_cases h:k<n
       ·exact absurd ⟨h,by simp⟩ hlt
       ·omega
      subst hk
      have htt:=RdIn.fin (show RdIn rdPeer total 0 acc (some r) by have:=Hin.out;rwa [Nat.sub_self] at this)
      exact .inl ⟨r,rfl,ht,Int.lt_irrefl _,by rw [Hr2.out,htt]⟩)
   clear hlt ht Hin
   generalize vchk acc=V at *
   rcases Hout.out with ⟨r,hs,rfl,hx,hR⟩|⟨hs,rfl,hR⟩
   ·subst hs
    have HRr:=hid hR
    clear hR hxx
    go_wp2_with fail
    refine (hcb.out wr HI.out.row).mono ?_
    rintro e w3 ⟨rfl,hp3⟩
    have J3:=hid (HI.out.pure hp3)
    clear hp3 q0 q1 g0 g1
    obtain ⟨l1,t1,q0,q1,g0,g1,-,-⟩:=J3.out.r.r.parts
    have JT:=hid (J3.out.r.tear)
    cases V
    ·have HR:=qh (R=([],none)) (HRr.out)
     go_wp2
     go_ret
     exact ⟨_,rfl,by rw [HR.out];exact Row.nil _ _,fun k hk=>by simp [Value.rb] at hk,by rw [HR.out];exact JT.out.r,JT.out.k⟩
    ·have HR:=qh (R=(acc,some r)) (HRr.out)
     go_wp2
     go_ret
     exact J3.out.done (by rw [HR.out]) (by rw [HR.out])
   ·subst hs
    have HR:=hid hR
    have JT:=hid (HI.out.r.tear)
    clear hR
    rcases hxx with hx|⟨hx,-⟩
    all_goals
     go_wp2
     go_ret
     exact ⟨_,rfl,by rw [HR.out];exact Row.nil _ _,fun k hk=>by simp [Value.rb] at hk,by rw [HR.out];exact JT.out.r,JT.out.k⟩
theorem rhread_any (b:Nat) (s:RS) (w:World) (h:RdAt 98 b s w) :
 Calls Tryz.prog 59 #[.pointer (some ⟨b,0,none⟩)] w (RdRowG hcells 4 98 b (rdHolds s).1 (rdHolds s).2 w):=by
 have hi1:=hid (rintr_any b s 1000 w h qd qd)
 have hbd:=rdInt_bd 1000 s
 have hz:=rdInt_zero 1000 s
 have Hr:Hid (rdHolds s=match rdItems rdHold (rdInt 1000 s).1.toNat [] (rdInt 1000 s).2 with
  | (_,none)=>([],none)
  | (l,some r)=>if hchk l then (l,some r) else ([],none)):=(show _=_ from rfl)
 have hdot:=hid (fun s W (hW:RdAt 98 b s W)=>rdread_any b s W hW)
 have hp40:=hid (fun s W (hW:RdAt 98 b s W)=>rintr_any b s 1099511627776 W hW qd qd)
 have hp50:=hid (fun s W (hW:RdAt 98 b s W)=>rintr_any b s 1125899906842624 W hW qd qd)
 have hck:=hid (fun v l W (hW:GRow hcells 4 W v l) hl=>rhchk_any v l W hW hl)
 have Hw:=qh (RdOwn hcells 4 94 98 b (.slice none 0 0) [] s w w) (⟨RdK.start h,World.ownsRow_nil _ _ _ _,h.lt⟩)
 unfold RdP at hi1 hdot hp40 hp50
 unfold dv at hdot
 generalize rdHolds s=R at *
 generalize rdInt 1000 s=N1 at *
 obtain ⟨x,s1⟩:=N1
 dsimp only at hi1 hbd Hr hz
 obtain ⟨n,rfl⟩ : ∃n:Nat,x=n:=⟨x.toNat,by omega⟩
 have Hr2:=hid Hr.out
 rw [Int.toNat_natCast] at Hr2
 have Hst:=hid (RdIn.start rdHold n s1 (fun e=>by have:=hz e;omega))
 obtain ⟨total,htot⟩:=qe (rdItems rdHold n [] s1)
 rw [←htot] at Hr2 Hst
 have hbn:=hbd.2 oe
 clear h hbd Hr htot hz
 go_enter Tryz.func59,Tryz.ntmps59
 go_wp2_with fail
 refine hi1.out.mono ?_
 rintro e w1 ⟨rfl,hr1,hk1⟩
 have H1:=hid (Hw.out.next hr1 hk1)
 clear hr1 hk1
 go_wp2_with fail
 go_loopw [4,5] (fun v i wr=>∃(k:Nat) (acc:List Hold) (s:RS),i=.int .i64 k∧k≤n∧acc.length=k∧RdOwn hcells 4 94 98 b v acc s w wr∧RdIn rdHold total (n-k) acc s) (fun _ i _=>n-(RowKit.intOf i).toNat)
 case atStart=>exact ⟨0,[],s1,rfl,Nat.zero_le _,rfl,H1.out,Hst.out⟩
 case round =>
  obtain ⟨k,acc,s,rfl,hkn,hlen,hI,hin⟩:=hrel
  have HI:=hid hI
  have Hin:=hid hin
  have Hlen:=hid hlen
  have hlm:acc.length≤1000:=by omega
  obtain ⟨a,c,rfl⟩:=osd hI.own
  obtain ⟨l0,t,q0,q1,g0,g1,ht,-⟩:=hI.r.r.parts
  clear hI hin hlen
  by_cases hlt:k<n∧s≠none
  ·obtain ⟨hkn',hs⟩:=hlt
   have ht' : t=false:=by rw [ht];cases s;exact absurd rfl hs;rfl
   subst ht'
   have hlt' : (k:Int)<(n:Int):=by omega
   have Hstep:=hid (RdIn.step (f:=rdHold) (m:=n-(k+1)) rfl (by have:=Hin.out;rw [show n-k=(n-(k+1))+1 by omega] at this;exact this))
   clear ht hs
   have hM:rdHold s=(((rdDot s).1,(rdInt 1099511627776 (rdDot s).2).1,(rdInt 1125899906842624 (rdInt 1099511627776 (rdDot s).2).2).1),(rdInt 1125899906842624 (rdInt 1099511627776 (rdDot s).2).2).2):=rfl
   rw [hM] at Hstep
   have j0:=hid (hdot.out s)
   have j1:=hid (hp40.out (rdDot s).2)
   have j2:=hid (hp50.out (rdInt 1099511627776 (rdDot s).2).2)
   clear hM
   generalize rdInt 1125899906842624 (rdInt 1099511627776 (rdDot s).2).2=N2 at *
   generalize rdInt 1099511627776 (rdDot s).2=N1 at *
   generalize rdDot s=N0 at *
   obtain ⟨⟨d1,d2⟩,t0⟩:=N0
   obtain ⟨qr,t1⟩:=N1
   obtain ⟨qu,t2⟩:=N2
   dsimp only at j0 j1 j2 Hstep
   go_wp2_with fail
   refine (j0.out wr HI.out.r.r).mono ?_
   clear q0 q1 g0 g1
   rintro e w3 ⟨rfl,hr3,hk3⟩
   have I3:=hid (HI.out.next hr3 hk3)
   obtain ⟨y3,hy3⟩:=qe (w3.alloc (.cells #[.int .i64 d1,.int .i64 d2,.int .i64 0,.int .i64 0] 94))
   have J3:=qh (RdOwn hcells 4 94 98 b (.slice a acc.length c) acc t0 w y3) (by rw [hy3];exact I3.out.alloc _)
   have M3:=qh (y3.heap[w3.heap.size]?=some (.cells #[.int .i64 d1,.int .i64 d2,.int .i64 0,.int .i64 0] 94 (0,0))) (by rw [hy3];exact ban _ _)
   have nm:=qh (w.heap.size≤w3.heap.size∧(∀j,(Value.slice a acc.length c).ownBlock=some j→j≠w3.heap.size)) (⟨I3.out.r.k.size,fun j hj e=>by have:=(I3.out.own.lt j hj).2;omega⟩)
   clear hr3 hk3 I3 j0
   go_wp2_with fail
   rw [←hy3]
   clear hy3
   generalize w3.heap.size=m at *
   refine (j1.out y3 J3.out.r.r).mono ?_
   rintro e w4 ⟨rfl,hr4,hk4⟩
   have I4:=hid (J3.out.next hr4 hk4)
   have M4':=hid (block_kept M3.out hk4 (by have:=nm.out.1;have:=J3.out.wb;omega))
   have e1:=cob M4'.out 2
   have f1:=fob M4'.out 2
   simp at e1
   obtain ⟨y4,hy4⟩:=qe (w4.setCell ⟨m,2,none⟩ (.int .i64 qr))
   have J4:=qh (RdOwn hcells 4 94 98 b (.slice a acc.length c) acc t1 w y4) (by rw [hy4];exact I4.out.set nm.out.1 nm.out.2 _)
   have M4:=qh (y4.heap[m]?=some (.cells #[.int .i64 d1,.int .i64 d2,.int .i64 qr,.int .i64 0] 94 (0,0))) (by rw [hy4];have:=bsc M4'.out 2 (.int .i64 qr);simpa using this)
   clear hr4 hk4 I4 M4' J3 M3 j1
   go_wp2_with fail
   rw [←hy4]
   clear hy4 e1 f1
   refine (j2.out y4 J4.out.r.r).mono ?_
   rintro e w5 ⟨rfl,hr5,hk5⟩
   have I5:=hid (J4.out.next hr5 hk5)
   have M5':=hid (block_kept M4.out hk5 (by have:=nm.out.1;have:=J4.out.wb;omega))
   have e1:=cob M5'.out 3
   have f1:=fob M5'.out 3
   simp at e1
   obtain ⟨y5,hy5⟩:=qe (w5.setCell ⟨m,3,none⟩ (.int .i64 qu))
   have J5:=qh (RdOwn hcells 4 94 98 b (.slice a acc.length c) acc t2 w y5) (by rw [hy5];exact I5.out.set nm.out.1 nm.out.2 _)
   have M5:=qh (y5.heap[m]?=some (.cells #[.int .i64 d1,.int .i64 d2,.int .i64 qr,.int .i64 qu] 94 (0,0))) (by rw [hy5];have:=bsc M5'.out 3 (.int .i64 qu);simpa using this)
   clear hr5 hk5 I5 M5' J4 M4 j2
   go_upto_region 9 with fail
   rw [←hy5]
   clear hy5 e1 f1
   have g0:=cob M5.out 0
   have g1:=cob M5.out 1
   have g2:=cob M5.out 2
   have g3:=cob M5.out 3
   simp at g0 g1 g2 g3
   have hs6:w.heap.size≤(y5.alloc (.cells #[.int .i64 d1,.int .i64 d2,.int .i64 qr,.int .i64 qu] 94)).heap.size:=by have:=J5.out.r.k.size;simp;omega
   go_wp2_with (at_builtin;refine wpList_append_holds rfl _ _ rfl w.heap.size _ acc acc.length rfl (J5.out.own.alloc _) _ [(((d1,d2),qr,qu):Hold)] 1 rfl (holds_lit y5 (((d1,d2),qr,qu):Hold)) oe hs6 ?_)
   intro v7 w7 hown7 hg7
   have Hown7:=qh (w7.ownsRow w.heap.size 94 4 v7 (acc++[(((d1,d2),qr,qu):Hold)]).length (gvs hcells (acc++[(((d1,d2),qr,qu):Hold)]))) (by rw [List.length_append];exact hown7)
   have J9:=hid ((J5.out.alloc _).grow hg7 Hown7.out)
   obtain ⟨a7,c7,rfl⟩:=osd hown7
   clear hown7 hg7 g0 g1 g2 g3 hs6
   go_wp2
   go_roundw
   case rel=>exact ⟨k+1,acc++[(((d1,d2),qr,qu):Hold)],t2,by go_num,by omega,by simp [Hlen.out],J9.out,Hstep.out⟩
   case measure=>simp [RowKit.intOf];omega
  ·have hcb:=hid (fun W (hW:GRow hcells 4 W (.slice a acc.length c) acc)=>hck.out _ acc W hW oe)
   unfold er1 at hcb
   have hxx:(¬(k:Int)<(n:Int))∨((k:Int)<(n:Int)∧t=true):=by
    by_cases h:k<n
    ·right
     refine ⟨by omega,?_⟩
     rw [ht]
     cases s
     ·rfl
     ·exact absurd ⟨h,by simp⟩ hlt
    ·left;omega
   have Hout:=qh ((∃r,s=some r∧t=false∧¬(k:Int)<(n:Int)∧R=if hchk acc then (acc,some r) else ([],none))∨(s=none∧t=true∧R=([],none))) (by
    cases s with
    | none=>exact .inr ⟨rfl,ht,by rw [Hr2.out,show total=([],none) from Hin.out]⟩
    | some r =>
      have hk:k=n:=by
       by_cases h:k<n
       ·exact absurd ⟨h,by simp⟩ hlt
       ·omega
      subst hk
      have htt:=RdIn.fin (show RdIn rdHold total 0 acc (some r) by have:=Hin.out;rwa [Nat.sub_self] at this)
      exact .inl ⟨r,rfl,ht,Int.lt_irrefl _,by rw [Hr2.out,htt]⟩)
   clear hlt ht Hin
   generalize hchk acc=V at *
   rcases Hout.out with ⟨r,hs,rfl,hx,hR⟩|⟨hs,rfl,hR⟩
   ·subst hs
    have HRr:=hid hR
    clear hR hxx
    go_wp2_with fail
    refine (hcb.out wr HI.out.row).mono ?_
    rintro e w3 ⟨rfl,hp3⟩
    have J3:=hid (HI.out.pure hp3)
    clear hp3 q0 q1 g0 g1
    obtain ⟨l1,t1,q0,q1,g0,g1,-,-⟩:=J3.out.r.r.parts
    have JT:=hid (J3.out.r.tear)
    cases V
    ·have HR:=qh (R=([],none)) (HRr.out)
     go_wp2
     go_ret
     exact ⟨_,rfl,by rw [HR.out];exact Row.nil _ _,fun k hk=>by simp [Value.rb] at hk,by rw [HR.out];exact JT.out.r,JT.out.k⟩
    ·have HR:=qh (R=(acc,some r)) (HRr.out)
     go_wp2
     go_ret
     exact J3.out.done (by rw [HR.out]) (by rw [HR.out])
   ·subst hs
    have HR:=hid hR
    have JT:=hid (HI.out.r.tear)
    clear hR
    rcases hxx with hx|⟨hx,-⟩
    all_goals
     go_wp2
     go_ret
     exact ⟨_,rfl,by rw [HR.out];exact Row.nil _ _,fun k hk=>by simp [Value.rb] at hk,by rw [HR.out];exact JT.out.r,JT.out.k⟩
end Go.Proofs.YtdlpnhfgjficgaaGreat
