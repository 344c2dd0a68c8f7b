import Derived.Test.YtdlpnhfgjficgaaGreatMX36
namespace Go.Proofs.YtdlpnhfgjficgaaGreat
section
set_option maxHeartbeats 4000000
set_option maxRecDepth 8000
open Go.RowKit Go.Maps Go.Shelf Go.Sort
theorem RbW.tear {T:TypeId} {b nr nb:Nat} {X:List Dot × List Dot} {x1 x2 v:Value} {acc:List Msg} {s:RS} {w W:World} (h:RbW T b nr nb X x1 x2 v acc s w W):RbW T b nr nb X x1 x2 v acc none w (W.setCell ⟨b,1,none⟩ (.bool true)) :=
 h.next (h.r.r.tear (Kept.refl (fun k=>k=b) W)).1 (h.r.r.tear (Kept.refl (fun k=>k=b) W)).2
theorem rbread_any (b:Nat) (s:RS) (w:World) (h:RdAt 98 b s w) :
 Calls Tryz.prog 53 #[.pointer (some ⟨b,0,none⟩)] w (RdBagP 98 b (rdBag s).1 (rdBag s).2 w):=by
 have hb:=h.lt
 have Hb:=hid hb
 have hctx:=hid (fun s W (hW:RdAt 98 b s W)=>rcread_any b s W hW)
 have hint:=hid (fun s W (hW:RdAt 98 b s W)=>rintr_any b s 1000 W hW qd qd)
 have hcnt:=hid (fun s W (hW:RdAt 98 b s W)=>rintr_any b s 1048576 W hW qd qd)
 have htext:=hid (fun s W (hW:RdAt 98 b s W)=>rtextr_any b s 1000 W hW qd qd)
 have hdot:=hid (fun s W (hW:RdAt 98 b s W)=>rdread_any b s W hW)
 have hchk:=hid (fun v0 v1 v2 g W hr l0 l1 l2=>rbchk_any v0 v1 v2 g W hr l0 l1 l2)
 unfold RdP at hint hcnt htext hdot
 unfold dv at hdot
 unfold RdCtxP at hctx
 have Hd:Hid (rdBag s=match rdItems rdMsg (rdInt 1000 (rdCtx s).2).1.toNat [] (rdInt 1000 (rdCtx s).2).2 with
  | (_,none)=>(([],[],[]),none)
  | (l,some r)=>if bchk (l,(rdCtx s).1) then ((l,(rdCtx s).1),some r) else (([],[],[]),none)):=(show _=_ from rfl)
 have hl:=rdCtx_len s
 have hbd:=rdInt_bd 1000 (rdCtx s).2
 have hz:=rdInt_zero 1000 (rdCtx s).2
 have hi1:=hid (hctx.out s)
 have hi2:=hid (hint.out (rdCtx s).2)
 generalize rdBag s=R at *
 generalize rdInt 1000 (rdCtx s).2=N2 at *
 generalize rdCtx s=N1 at *
 obtain ⟨⟨B,C⟩,s1⟩:=N1
 obtain ⟨x,s2⟩:=N2
 dsimp only at hi1 hi2 Hd hl hbd hz
 obtain ⟨n,rfl⟩ : ∃n:Nat,x=n:=⟨x.toNat,by omega⟩
 have Hr2:=hid Hd.out
 rw [Int.toNat_natCast] at Hr2
 obtain ⟨total,htot⟩:=qe (rdItems rdMsg n [] s2)
 have Hst:=hid (RdIn.start rdMsg n s2 (fun e=>by have:=hz e;omega))
 rw [←htot] at Hr2 Hst
 have hbn:=hbd.2 oe
 have Hl:=hid hl
 clear hctx hint hbd Hd hl
 obtain ⟨wz,hwz⟩:=qe (w.alloc (.cells #[.slice none 0 0,.slice none 0 0,.slice none 0 0] 34))
 have Hz:=qh (RdK 98 b s w wz) (by rw [hwz];exact (RdK.start h).alloc _)
 have Bz:=qh (wz.heap[w.heap.size]?=some (.cells #[.slice none 0 0,.slice none 0 0,.slice none 0 0] 34 (0,0))) (by rw [hwz];exact ban _ _)
 have Sz:=qh (wz.heap.size=w.heap.size+1) (by rw [hwz];simp)
 clear h
 go_enter Tryz.func53,Tryz.ntmps53
 go_wp2_with fail
 rw [←hwz]
 clear hwz
 refine (hi1.out wz Hz.out.r).mono ?_
 rintro e w1 ⟨x1,x2,rfl,hcr,hf1,hf2,hr1,hk1⟩
 obtain ⟨a1,c1,rfl⟩:=hcr.1.shape
 obtain ⟨a2,c2,rfl⟩:=hcr.2.shape
 have hs1:=hk1.size
 have hsz:=Sz.out
 have G1:=qh (∀k,(Value.slice a1 B.length c1).rb=some k→w.heap.size<k∧k<w1.heap.size) (fun k hk=>by have:=hf1 k hk;have:=Row.lt hcr.1 k hk;omega)
 have G2:=qh (∀k,(Value.slice a2 C.length c2).rb=some k→w.heap.size<k∧k<w1.heap.size) (fun k hk=>by have:=hf2 k hk;have:=Row.lt hcr.2 k hk;omega)
 obtain ⟨v1,hv1⟩:=qe (w1.alloc (.cells #[.slice none 0 0,.slice a1 B.length c1,.slice a2 C.length c2] 34))
 have H1:=qh (RbW 98 b w.heap.size w1.heap.size (B,C) (.slice a1 B.length c1) (.slice a2 C.length c2) (.slice none 0 0) [] s1 w v1) (by
  have hr:=(Hz.out.next hr1 hk1).alloc (.cells #[.slice none 0 0,.slice a1 B.length c1,.slice a2 C.length c2] 34)
  rw [←hv1] at hr
  exact ⟨hr,by rw [hv1];exact ban _ _,by rw [hv1];exact bao (block_kept Bz.out hk1 oe) _,World.ownsRow_nil _ _ _ _,by rw [hv1];exact hcr.pure qp,hb,rfl,by omega,G1.out,G2.out⟩)
 clear hr1 hk1 hcr hf1 hf2 hs1 hsz Bz Hz hi1
 go_wp2_with fail
 rw [←hv1]
 clear hv1
 generalize w1.heap.size=nb at *
 refine (hi2.out v1 H1.out.r.r).mono ?_
 rintro e w2 ⟨rfl,hr2,hk2⟩
 have H2:=hid (H1.out.next hr2 hk2)
 clear hr2 hk2 H1 hi2
 go_wp2_with fail
 clear htot hz
 go_loopw [5] (fun i wr=>∃(k:Nat) (v:Value) (acc:List Msg) (s:RS),i=.int .i64 k∧k≤n∧acc.length=k∧RbW 98 b w.heap.size nb (B,C) (.slice a1 B.length c1) (.slice a2 C.length c2) v acc s w wr∧RdIn rdMsg total (n-k) acc s) (fun i _=>n-(RowKit.intOf i).toNat)
 case atStart=>exact ⟨0,_,[],s2,rfl,Nat.zero_le _,rfl,H2.out,Hst.out⟩
 case round =>
  obtain ⟨k,v,acc,s,rfl,hkn,hlen,hI,hin⟩:=hrel
  have HI:=hid hI
  have Hin:=hid hin
  have Hlen:=hid hlen
  have hl1000:acc.length≤1000:=by omega
  obtain ⟨a,c,rfl⟩:=osd hI.own
  obtain ⟨l0,t,p0,p1,q0,q1,ht,-⟩:=hI.r.r.parts
  clear hI hin hlen
  by_cases hlt:k<n∧s≠none
  ·obtain ⟨hkn',hs⟩:=hlt
   have ht' : t=false:=by rw [ht];cases s;exact absurd rfl hs;rfl
   subst ht'
   have hlt' : (k:Int)<(n:Int):=by omega
   have Hstep:=hid (RdIn.step (f:=rdMsg) (m:=n-(k+1)) rfl (by have:=Hin.out;rw [show n-k=(n-(k+1))+1 by omega] at this;exact this))
   clear ht hs
   have hM:rdMsg s=(((rdDot s).1,(rdX 1000 (rdDot s).2).1,(rdX 1000 (rdX 1000 (rdDot s).2).2).1,(rdInt 1048576 (rdX 1000 (rdX 1000 (rdDot s).2).2).2).1),(rdInt 1048576 (rdX 1000 (rdX 1000 (rdDot s).2).2).2).2):=rfl
   have h1:=hid (hdot.out s)
   have h2:=hid (htext.out (rdDot s).2)
   have h3:=hid (htext.out (rdX 1000 (rdDot s).2).2)
   have h4:=hid (hcnt.out (rdX 1000 (rdX 1000 (rdDot s).2).2).2)
   rw [hM] at Hstep
   clear hM
   generalize rdInt 1048576 (rdX 1000 (rdX 1000 (rdDot s).2).2).2=N4 at *
   generalize rdX 1000 (rdX 1000 (rdDot s).2).2=N3 at *
   generalize rdX 1000 (rdDot s).2=N2 at *
   generalize rdDot s=N1 at *
   obtain ⟨⟨d1,d2⟩,t1⟩:=N1
   obtain ⟨q,t2⟩:=N2
   obtain ⟨p,t3⟩:=N3
   obtain ⟨ct,t4⟩:=N4
   dsimp only at h1 h2 h3 h4 Hstep
   go_wp2_with fail
   refine (h1.out wr HI.out.r.r).mono ?_
   clear p0 p1 q0 q1
   rintro e w3 ⟨rfl,hr3,hk3⟩
   have I3:=hid (HI.out.next hr3 hk3)
   obtain ⟨y3,hy3⟩:=qe (w3.alloc (.cells #[.int .i64 d1,.int .i64 d2,.string ⟨#[]⟩,.string ⟨#[]⟩,.int .i64 0] 43))
   have J3:=qh (RbW 98 b w.heap.size nb (B,C) (.slice a1 B.length c1) (.slice a2 C.length c2) (.slice a acc.length c) acc t1 w y3) (by rw [hy3];exact I3.out.alloc _)
   have M3:=qh (MB w3.heap.size d1 d2 [] [] 0 y3) (by rw [hy3];exact ban _ _)
   have nm:=qh (nb<w3.heap.size∧(∀j,(Value.slice a acc.length c).ownBlock=some j→j≠w3.heap.size)) (⟨I3.out.lt,fun j hj e=>by have:=(I3.out.own.lt j hj).2;omega⟩)
   clear hr3 hk3 I3 h1
   go_wp2_with fail
   rw [←hy3]
   clear hy3
   generalize w3.heap.size=m at *
   refine (h2.out y3 J3.out.r.r).mono ?_
   rintro e w4 ⟨rfl,hr4,hk4⟩
   have I4:=hid (J3.out.next hr4 hk4)
   have M4:=qh (MB m d1 d2 [] [] 0 w4) (block_kept M3.out hk4 (by have:=nm.out.1;have:=J3.out.rn;have:=J3.out.wr;omega))
   obtain ⟨-,-,e2,-,-,f2,-,-⟩:=M4.out.cells
   obtain ⟨y4,hy4⟩:=qe (w4.setCell ⟨m,2,none⟩ (.string (bs q)))
   have J4:=qh (RbW 98 b w.heap.size nb (B,C) (.slice a1 B.length c1) (.slice a2 C.length c2) (.slice a acc.length c) acc t2 w y4) (by rw [hy4];exact I4.out.set nm.out.1 nm.out.2 _)
   have N4:=qh (MB m d1 d2 q [] 0 y4) (by rw [hy4];exact M4.out.set2 q)
   clear hr4 hk4 I4 M4 J3 M3 h2
   go_wp2_with fail
   rw [←hy4]
   clear hy4 e2 f2
   refine (h3.out y4 J4.out.r.r).mono ?_
   rintro e w5 ⟨rfl,hr5,hk5⟩
   have I5:=hid (J4.out.next hr5 hk5)
   have M5:=qh (MB m d1 d2 q [] 0 w5) (block_kept N4.out hk5 (by have:=nm.out.1;have:=J4.out.rn;have:=J4.out.wr;omega))
   obtain ⟨-,-,-,e3,-,-,f3,-⟩:=M5.out.cells
   obtain ⟨y5,hy5⟩:=qe (w5.setCell ⟨m,3,none⟩ (.string (bs p)))
   have J5:=qh (RbW 98 b w.heap.size nb (B,C) (.slice a1 B.length c1) (.slice a2 C.length c2) (.slice a acc.length c) acc t3 w y5) (by rw [hy5];exact I5.out.set nm.out.1 nm.out.2 _)
   have N5:=qh (MB m d1 d2 q p 0 y5) (by rw [hy5];exact M5.out.set3 p)
   clear hr5 hk5 I5 M5 J4 N4 h3
   go_wp2_with fail
   rw [←hy5]
   clear hy5 e3 f3
   refine (h4.out y5 J5.out.r.r).mono ?_
   rintro e w6 ⟨rfl,hr6,hk6⟩
   have I6:=hid (J5.out.next hr6 hk6)
   have M6:=qh (MB m d1 d2 q p 0 w6) (block_kept N5.out hk6 (by have:=nm.out.1;have:=J5.out.rn;have:=J5.out.wr;omega))
   obtain ⟨-,-,-,-,e4,-,-,f4⟩:=M6.out.cells
   have J6:=hid (I6.out.set (i:=4) nm.out.1 nm.out.2 (.int .i64 ct))
   have N6:=hid (M6.out.set4 ct)
   obtain ⟨y6,hy6⟩:=qe (w6.setCell ⟨m,4,none⟩ (.int .i64 ct))
   rw [←hy6] at J6 N6
   clear hr6 hk6 I6 M6 J5 N5 h4
   go_upto_region 10 with fail
   rw [←hy6]
   clear hy6 e4 f4
   obtain ⟨g0,g1,g2,g3,g4,-,-,-⟩:=N6.out.cells
   obtain ⟨b0,-,-,b3,-,-,-,-,-,-⟩:=J6.out.cells
   have hsz6:=qh (nb+1≤(y6.alloc (.cells #[.int .i64 d1,.int .i64 d2,.string (bs q),.string (bs p),.int .i64 ct] 43)).heap.size) (by have:=J6.out.lt;simp;omega)
   have hs6:=hsz6.out
   go_wp2_with (at_builtin;refine wpList_append_msgs rfl _ _ rfl (nb+1) _ acc acc.length rfl (J6.out.own.alloc _) _ [((d1,d2),q,p,ct)] 1 rfl (msgs_lit y6 ((d1,d2),q,p,ct)) oe hs6 ?_)
   intro v7 w7 hown7 hg7
   have Hown7:=qh (w7.ownsRow (nb+1) 43 5 v7 (acc++[((d1,d2),q,p,ct)]).length (mvs (acc++[((d1,d2),q,p,ct)]))) (by rw [List.length_append];exact hown7)
   have J7:=hid ((J6.out.alloc _).grow hg7 Hown7.out)
   obtain ⟨h0,h3⟩:=(J6.out.alloc _).grownCells hg7
   obtain ⟨a7,c7,rfl⟩:=osd hown7
   obtain ⟨y7,hy7⟩:=qe (w7.setCell ⟨nb,0,none⟩ (.slice a7 (acc.length+1) c7))
   rw [←hy7] at J7
   clear hown7 hg7 b0 b3 g0 g1 g2 g3 g4 hs6
   go_wp2
   rw [←hy7]
   clear hy7 h0 h3
   go_roundw
   case rel=>exact ⟨k+1,_,acc++[((d1,d2),q,p,ct)],t4,by go_num,by omega,by simp [Hlen.out],J7.out,Hstep.out⟩
   case measure=>simp [RowKit.intOf];omega
  ·have hxx:(¬(k:Int)<(n:Int))∨((k:Int)<(n:Int)∧t=true):=by
    by_cases h:k<n
    ·right
     refine ⟨by omega,?_⟩
     rw [ht]
     cases s
     ·rfl
     ·exact absurd ⟨h,by simp⟩ hlt
    ·left;omega
   have hbn:¬b=w.heap.size:=by omega
   have Hout:=qh ((∃r,s=some r∧R=if bchk (acc,(B,C)) then ((acc,(B,C)),some r) else (([],[],[]),none))∨(s=none∧R=(([],[],[]),none))) (by
    cases s with
    | none=>exact .inr ⟨rfl,by rw [Hr2.out,show total=([],none) from Hin.out]⟩
    | some r =>
      have hk:k=n:=by
       by_cases h:k<n
       ·exact absurd ⟨h,by simp⟩ hlt
       ·omega
      subst hk
      have htt:=RdIn.fin (show RdIn rdMsg total 0 acc (some r) by have:=Hin.out;rwa [Nat.sub_self] at this)
      exact .inl ⟨r,rfl,by rw [Hr2.out,htt]⟩)
   have Htail:=hid ht
   clear hlt ht Hin
   have hcb:=hid (fun W (hW:BR3 (.slice a acc.length c) (.slice a1 B.length c1) (.slice a2 C.length c2) (acc,(B,C)) W)=>hchk.out _ _ _ (acc,(B,C)) W hW (by show acc.length≤_;omega) (by show B.length≤_;have:=Hl.out.1;omega) (by show C.length≤_;have:=Hl.out.2;omega))
   unfold er1 at hcb
   generalize bchk (acc,(B,C))=V at *
   obtain ⟨e0,e1,e2,e3,e4,e5,e6,e7,e8,e9⟩:=HI.out.cells
   rcases Hout.out with ⟨r,hs,hR⟩|⟨hs,hR⟩
   ·subst hs
    have et:t=false:=Htail.out
    subst et
    have hx:¬(k:Int)<(n:Int):=by
     rcases hxx with h|⟨_,h⟩
     ·exact h
     ·cases h
    have HRr:=hid hR
    clear hR hxx
    go_wp2_with fail
    refine (hcb.out _ ⟨Row.of_own HI.out.own,HI.out.ctx.1,HI.out.ctx.2⟩).mono ?_
    rintro e w4 ⟨rfl,hp4⟩
    have J4:=hid (HI.out.pure hp4)
    clear hp4 e0 e1 e2 e3 e4 e5 e6 e7 e8 e9 p0 p1 q0 q1
    obtain ⟨e0,e1,e2,e3,e4,e5,e6,e7,e8,e9⟩:=J4.out.cells
    obtain ⟨l1,t1,p0,p1,q0,q1,-,-⟩:=J4.out.r.r.parts
    cases V with
    | false =>
      have HR:=qh (R=(([],[],[]),none)) (HRr.out)
      have HD:=hid (J4.out.tear.done (u0:=.slice none 0 0) (u1:=.slice none 0 0) (u2:=.slice none 0 0))
      go_wp2
      exact bodyPost_ret (v:=.agg #[.slice none 0 0,.slice none 0 0,.slice none 0 0]) (by simp [results,Tryz.results53,go_sem,cob HD.out.2.1 0,cob HD.out.2.1 1,cob HD.out.2.1 2]) rfl ⟨_,_,_,rfl,by rw [HR.out];exact BR3.nil _,BFr.nil _,by rw [HR.out];exact HD.out.1.r,HD.out.1.k⟩
    | true =>
      have HR:=qh (R=((acc,(B,C)),some r)) (HRr.out)
      have HD:=hid (J4.out.done (u0:=.slice a acc.length c) (u1:=.slice a1 B.length c1) (u2:=.slice a2 C.length c2))
      go_wp2
      exact bodyPost_ret (v:=.agg #[.slice a acc.length c,.slice a1 B.length c1,.slice a2 C.length c2]) (by simp [results,Tryz.results53,go_sem,cob HD.out.2.1 0,cob HD.out.2.1 1,cob HD.out.2.1 2]) rfl ⟨_,_,_,rfl,by rw [HR.out];exact HD.out.2.2.1,HD.out.2.2.2,by rw [HR.out];exact HD.out.1.r,HD.out.1.k⟩
   ·subst hs
    have et:t=true:=Htail.out
    subst et
    have HR:=hid hR
    have HD:=hid (HI.out.tear.done (u0:=.slice none 0 0) (u1:=.slice none 0 0) (u2:=.slice none 0 0))
    clear hR
    rcases hxx with hx|⟨hx,-⟩
    all_goals
     go_wp2
     exact bodyPost_ret (v:=.agg #[.slice none 0 0,.slice none 0 0,.slice none 0 0]) (by simp [results,Tryz.results53,go_sem,cob HD.out.2.1 0,cob HD.out.2.1 1,cob HD.out.2.1 2]) rfl ⟨_,_,_,rfl,by rw [HR.out];exact BR3.nil _,BFr.nil _,by rw [HR.out];exact HD.out.1.r,HD.out.1.k⟩
end
section
set_option maxHeartbeats 2000000
set_option maxRecDepth 8000
open Go.RowKit Go.Maps Go.Shelf
theorem rborn_any (n:Int) (w:World) (h0:0≤n) (hn:n<9223372036854775808):Calls Tryz.prog 20 #[.int .i64 n] w fun e w'=>e=.returned (.string (bs (73::num n.toNat)))∧Pure w w':=by
 have h:=hid (rint_any n w h0 hn)
 have hc:=bcat1 73 (num n.toNat)
 have hl:¬(9223372036854775807:Int)<1+((bs (num n.toNat)).size:Int):=by
  rw [bs_size]
  have h1:=num_nd n.toNat oe
  have h2:=nd_le n.toNat oe
  omega
 have hl2:¬9223372036854775807<1+(bs (num n.toNat)).size:=by omega
 clear h0 hn
 generalize num n.toNat=l at *
 go_enter Tryz.func20,Tryz.ntmps20
 go_wp2_with (go_at_call 61;refine h.out.mono ?_;rintro e w1 ⟨rfl,hp1⟩;have Hp1:=hid hp1;clear hp1)
 go_ret
 exact ⟨rfl,Hp1.out⟩
theorem rreserve_any (n:Int) (w:World) (h0:0≤n) (hn:n<9223372036854775808):Calls Tryz.prog 22 #[.int .i64 n] w fun e w'=>e=.returned (.string (bs (82::num n.toNat)))∧Pure w w':=by
 have h:=hid (rint_any n w h0 hn)
 have hc:=bcat1 82 (num n.toNat)
 have hl:¬(9223372036854775807:Int)<1+((bs (num n.toNat)).size:Int):=by
  rw [bs_size]
  have h1:=num_nd n.toNat oe
  have h2:=nd_le n.toNat oe
  omega
 have hl2:¬9223372036854775807<1+(bs (num n.toNat)).size:=by omega
 clear h0 hn
 generalize num n.toNat=l at *
 go_enter Tryz.func22,Tryz.ntmps22
 go_wp2_with (go_at_call 61;refine h.out.mono ?_;rintro e w1 ⟨rfl,hp1⟩;have Hp1:=hid hp1;clear hp1)
 go_ret
 exact ⟨rfl,Hp1.out⟩
theorem rtagged_any (v:Value) (l:List Tag) (w:World) (hr:Tags w v l) (hv:TV l):Calls Tryz.prog 26 #[v] w fun e w'=>e=.returned (.string (bs (78::tagsB l)))∧Pure w w':=by
 have h:=hid (rtbytes_any v l w hr hv.may (by have:=hv.n;omega))
 have hc:=bcat1 78 (tagsB l)
 have hlen:=tagsB_len hv
 have hl:¬(9223372036854775807:Int)<1+((bs (tagsB l)).size:Int):=by rw [bs_size];omega
 have hl2:¬9223372036854775807<1+(bs (tagsB l)).size:=by rw [bs_size];omega
 clear hlen hr hv
 generalize tagsB l=L at *
 go_enter Tryz.func26,Tryz.ntmps26
 go_wp2_with (go_at_call 65;refine h.out.mono ?_;rintro e w1 ⟨rfl,hp1⟩;have Hp1:=hid hp1;clear hp1)
 go_ret
 exact ⟨rfl,Hp1.out⟩
theorem rseen_any (v:Value) (l:List Pr) (w:World) (hr:Peers w v l) (hv:VV l):Calls Tryz.prog 28 #[v] w fun e w'=>e=.returned (.string (bs (86::viewB l)))∧Pure w w':=by
 have h:=hid (rvbytes_any v l w hr hv.may (by have:=hv.n;omega))
 have hc:=bcat1 86 (viewB l)
 have hlen:=viewB_len hv
 have hl:¬(9223372036854775807:Int)<1+((bs (viewB l)).size:Int):=by rw [bs_size];omega
 have hl2:¬9223372036854775807<1+(bs (viewB l)).size:=by rw [bs_size];omega
 clear hlen hr hv
 generalize viewB l=L at *
 go_enter Tryz.func28,Tryz.ntmps28
 go_wp2_with (go_at_call 67;refine h.out.mono ?_;rintro e w1 ⟨rfl,hp1⟩;have Hp1:=hid hp1;clear hp1)
 go_ret
 exact ⟨rfl,Hp1.out⟩
theorem rheld_any (v:Value) (l:List Hold) (w:World) (hr:Holds w v l) (hv:HV l):Calls Tryz.prog 30 #[v] w fun e w'=>e=.returned (.string (bs (72::holdsB l)))∧Pure w w':=by
 have h:=hid (rhbytes_any v l w hr hv.may (by have:=hv.n;omega))
 have hc:=bcat1 72 (holdsB l)
 have hlen:=holdsB_len hv
 have hl:¬(9223372036854775807:Int)<1+((bs (holdsB l)).size:Int):=by rw [bs_size];omega
 have hl2:¬9223372036854775807<1+(bs (holdsB l)).size:=by rw [bs_size];omega
 clear hlen hr hv
 generalize holdsB l=L at *
 go_enter Tryz.func30,Tryz.ntmps30
 go_wp2_with (go_at_call 69;refine h.out.mono ?_;rintro e w1 ⟨rfl,hp1⟩;have Hp1:=hid hp1;clear hp1)
 go_ret
 exact ⟨rfl,Hp1.out⟩
theorem rjoined_any (p:Nat) (v0 v1 v2:Value) (g:Bag) (m:Nat) (w:World) (hr:BR3 v0 v1 v2 g w) (hg:BN m g) (hm:m≤10000) (hp:p<1000000) :
 Calls Tryz.prog 24 #[.int .i64 p,.agg #[v0,v1,v2]] w fun e w'=>e=.returned (.string (bs (66::(num p++bagB g))))∧Pure w w':=by
 have hi:=hid (fun W=>(show Calls Tryz.prog 61 #[.int .i64 p] W fun e w'=>e=.returned (.string (bs (num p)))∧Pure W w' from rint_any (p:Int) W oe oe))
 have hb:=hid (fun W (hW:Pure w W)=>rbbytes_any _ g W (hr.pure hW).at (hg.small hm))
 have l1:=num_len p oe
 have l2:=bagB_len hg hm
 have hl:¬(9223372036854775807:Int)<1+((bs (num p)).size:Int):=by rw [bs_size];omega
 have hl2:¬9223372036854775807<1+(bs (num p)).size:=by rw [bs_size];omega
 have hl3:¬(9223372036854775807:Int)<((bs (66::num p)).size:Int)+((bs (bagB g)).size:Int):=by rw [bs_size,bs_size];simp only [List.length_cons];omega
 have hl4:¬9223372036854775807<(bs (66::num p)).size+(bs (bagB g)).size:=by rw [bs_size,bs_size];simp only [List.length_cons];omega
 have hc:=bcat1 66 (num p)
 have hc2:=qh (bs (66::num p)++bs (bagB g)=bs (66::(num p++bagB g))) (by rw [bs_append];rfl)
 obtain ⟨wz,hwz⟩:=qe (w.alloc (.cells #[v0,v1,v2] 34))
 have Hpz:=qh (Pure w wz) (by rw [hwz];exact qp)
 have hbk:=qh (wz.heap[w.heap.size]?=some (.cells #[v0,v1,v2] 34 (0,0))) (by rw [hwz];exact ban _ _)
 have hS:Hid (∀W,Pure wz W→(W.cell? ⟨w.heap.size,0,none⟩=some v0∧W.cell? ⟨w.heap.size,1,none⟩=some v1∧W.cell? ⟨w.heap.size,2,none⟩=some v2∧Pure wz W)):=fun W hW=>by
  have e:=(hW.block _ (lob hbk.out)).trans hbk.out
  exact ⟨cob e 0,cob e 1,cob e 2,hW⟩
 have hst:=hid (hS.out wz.drew qv)
 have hS2:Hid (∀W:World,(W.cell? ⟨w.heap.size,0,none⟩=some v0∧W.cell? ⟨w.heap.size,1,none⟩=some v1∧W.cell? ⟨w.heap.size,2,none⟩=some v2∧Pure wz W)→Pure wz W):=fun W h=>h.2.2.2
 clear hr hg l1 l2 hbk
 generalize bs (num p)=A at *
 generalize bs (bagB g)=B at *
 generalize bs (66::num p)=C at *
 go_enter Tryz.func24,Tryz.ntmps24
 go_wp2_with fail
 rw [←hwz]
 clear hwz
 go_region_held3 (fun W=>W.cell? ⟨w.heap.size,0,none⟩=some v0∧W.cell? ⟨w.heap.size,1,none⟩=some v1∧W.cell? ⟨w.heap.size,2,none⟩=some v2∧Pure wz W)
  (exact qz)
  (first
    | (go_at_call 61;(with_reducible refine (hi.out _).mono ?_);rintro e w2 ⟨rfl,hp2⟩)
    | (go_at_call 63;(with_reducible refine (hb.out _ (Pure.then_ Hpz.out (hS2.out _ qa))).mono ?_);rintro e w2 ⟨rfl,hp2⟩))
 all_goals
  have hx:=hid (hS2.out w2 qa)
  clear hst hS hS2 hp2
  go_wp2
  go_ret
  exact ⟨congrArg (fun z=>Ending.returned (.string z)) hc2.out,Hpz.out.then_ hx.out⟩
end
section
set_option maxHeartbeats 8000000
set_option maxRecDepth 8000
open Go.RowKit Go.Maps Go.Shelf
theorem RsB.pureG {n:Nat} {W W' : World} (h:RsB n W) (hp:Pure W W'):RsB n W':=(hp.block _ (lob h)).trans h
theorem sbag_any (n p M:Nat) (S:SD) (w:World) (h:St n S w) (hp:p<16) (hg:BN M (S.bags.getD p nb)) (hM:M≤3000) :
 Calls Tryz.prog 13 #[.pointer (some ⟨n,0,none⟩),.int .i64 (p:Nat)] w (BagO w (S.bags.getD p nb)):=by
 obtain ⟨r,hA,hR⟩:=h
 obtain ⟨u0,u1,u2,e0,e1,e2,hgr,-,-,-⟩:=hR.bag p hp
 generalize S.bags.getD p nb=g at *
 obtain ⟨a0,c0,rfl⟩:=hgr.1.shape
 obtain ⟨a1,c1,rfl⟩:=hgr.2.1.shape
 obtain ⟨a2,c2,rfl⟩:=hgr.2.2.shape
 obtain ⟨wz,hwz⟩:=qe ((w.alloc (.cells #[.slice none 0 0,.slice none 0 0,.slice none 0 0] 34)).alloc (.cells #[.slice a0 g.1.length c0,.slice a1 g.2.1.length c1,.slice a2 g.2.2.length c2] 34))
 have Hpz:=qh (Pure w wz) (by rw [hwz];exact qp.alloc qb _)
 have B4:=qh (RsB w.heap.size wz) (by rw [hwz];exact bao (ban _ _) _)
 have B5:=qh (wz.heap[w.heap.size+1]?=some (.cells #[.slice a0 g.1.length c0,.slice a1 g.2.1.length c1,.slice a2 g.2.2.length c2] 34 (0,0))) (by
  have:=ban (w.alloc (.cells #[.slice none 0 0,.slice none 0 0,.slice none 0 0] 34)) (.cells #[.slice a0 g.1.length c0,.slice a1 g.2.1.length c1,.slice a2 g.2.2.length c2] 34)
  rw [World.size_alloc] at this
  rw [hwz];exact this)
 have hp1:=Below.refl w.heap.size w
 obtain ⟨k0,-⟩:=(hA.pure ((Below.refl _ w).alloc (Nat.le_refl _) (.cells #[.slice none 0 0,.slice none 0 0,.slice none 0 0] 34))).at2 (j':=2+p*3) e0 oe
 obtain ⟨k1,-⟩:=(hA.pure ((Below.refl _ w).alloc (Nat.le_refl _) (.cells #[.slice none 0 0,.slice none 0 0,.slice none 0 0] 34))).at2 (j':=2+p*3+1) e1 oe
 obtain ⟨k2,-⟩:=(hA.pure ((Below.refl _ w).alloc (Nat.le_refl _) (.cells #[.slice none 0 0,.slice none 0 0,.slice none 0 0] 34))).at2 (j':=2+p*3+2) e2 oe
 have hl:=hg.l
 have hc:=hg.c
 have hm:=hid (fun W (hW:Pure wz W)=>mclone_any _ g.1 W (Row.pure hgr.1 (Hpz.out.then_ hW)) oe)
 have hb:=hid (fun W (hW:Pure wz W)=>dclone_any _ g.2.1 W (Row.pure hgr.2.1 (Hpz.out.then_ hW)) oe)
 have hcc:=hid (fun W (hW:Pure wz W)=>dclone_any _ g.2.2 W (Row.pure hgr.2.2 (Hpz.out.then_ hW)) oe)
 have hpp:(p:Int)<16:=by omega
 have hp0:¬(p:Int)<0:=by omega
 have hp16:¬(16:Int)≤(p:Int):=by omega
 have hpn:(0:Int)≤(p:Int):=by omega
 have hS0:=hid (fun W (hW:Pure wz W)=>(show W.cell? ⟨w.heap.size+1,0,none⟩=some (.slice a0 g.1.length c0)∧W.cell? ⟨w.heap.size+1,1,none⟩=some (.slice a1 g.2.1.length c1)∧W.cell? ⟨w.heap.size+1,2,none⟩=some (.slice a2 g.2.2.length c2) from
  ⟨cob ((hW.block _ (lob B5.out)).trans B5.out) 0,cob ((hW.block _ (lob B5.out)).trans B5.out) 1,cob ((hW.block _ (lob B5.out)).trans B5.out) 2⟩))
 have hz40:=hid (fun W (hW:Pure wz W)=>RsB.pureG B4.out hW)
 have hS20:=hid (fun W (hW:Pure wz W) (x y z:Value)=>(show (((W.setCell ⟨w.heap.size,0,none⟩ x).setCell ⟨w.heap.size,1,none⟩ y).setCell ⟨w.heap.size,2,none⟩ z).cell? ⟨w.heap.size+1,0,none⟩=some (.slice a0 g.1.length c0)∧(((W.setCell ⟨w.heap.size,0,none⟩ x).setCell ⟨w.heap.size,1,none⟩ y).setCell ⟨w.heap.size,2,none⟩ z).cell? ⟨w.heap.size+1,1,none⟩=some (.slice a1 g.2.1.length c1)∧(((W.setCell ⟨w.heap.size,0,none⟩ x).setCell ⟨w.heap.size,1,none⟩ y).setCell ⟨w.heap.size,2,none⟩ z).cell? ⟨w.heap.size+1,2,none⟩=some (.slice a2 g.2.2.length c2) from
  ⟨cob (bso (bso (bso ((hW.block _ (lob B5.out)).trans B5.out) _ (by show w.heap.size≠w.heap.size+1;omega) _) _ (by show w.heap.size≠w.heap.size+1;omega) _) _ (by show w.heap.size≠w.heap.size+1;omega) _) 0,cob (bso (bso (bso ((hW.block _ (lob B5.out)).trans B5.out) _ (by show w.heap.size≠w.heap.size+1;omega) _) _ (by show w.heap.size≠w.heap.size+1;omega) _) _ (by show w.heap.size≠w.heap.size+1;omega) _) 1,cob (bso (bso (bso ((hW.block _ (lob B5.out)).trans B5.out) _ (by show w.heap.size≠w.heap.size+1;omega) _) _ (by show w.heap.size≠w.heap.size+1;omega) _) _ (by show w.heap.size≠w.heap.size+1;omega) _) 2⟩))
 clear hA hR hgr hl hc hg e0 e1 e2 hp1
 go_enter Tryz.func13,Tryz.ntmps13
 go_upto_region 4 with fail
 rw [←hwz]
 clear hwz k0 k1 k2 hpp hp0 hp16 hpn
 have hS:=hS0
 have hz4:=hid (fun W hW=>(hz40.out W hW).cells)
 have hS2:=hS20
 clear hS0 hz40 hS20
 refine wp_region_held_drew (S:=(fun W=>W.cell? ⟨w.heap.size+1,0,none⟩=some (.slice a0 g.1.length c0)∧W.cell? ⟨w.heap.size+1,1,none⟩=some (.slice a1 g.2.1.length c1)∧W.cell? ⟨w.heap.size+1,2,none⟩=some (.slice a2 g.2.2.length c2))) qk ?_ (fun hHeld=>?_)
 ·exact hS.out _ qv
 obtain ⟨y0,hy0⟩:=qe (wz.drew)
 have Q0:=qh (Pure wz y0) (by rw [hy0];exact qv)
 rw [←hy0] at hHeld ⊢
 clear hy0
 refine tkA 0 ?_
 refine tkA 1 ?_
 refine tkA 3 ?_
 refine tkA 4 ?_
 refine tkA 5 ?_
 refine tkA 7 ?_
 refine tkA 8 ?_
 refine tkA 9 ?_
 refine tkC 2 fun K hK=>?_
 go_simp
 go_at_call 42;refine (hm.out _ Q0.out).mono ?_;rintro e y1 ⟨v0,rfl,hown,hp⟩;have Q1:=hid (Q0.out.then_ hp);obtain ⟨b0,d0,rfl⟩:=osd hown
 refine hK.out _ _ (by exact hS.out _ Q1.out) fun hHeld=>?_
 clear hK K
 have O0:=hid (own_mono hown Q0.out.size)
 clear hp hown
 refine tkC 6 fun K hK=>?_
 go_simp
 go_at_call 43;refine (hb.out _ Q1.out).mono ?_;rintro e y2 ⟨v1,rfl,hown,hp⟩;have Q2:=hid (Q1.out.then_ hp);obtain ⟨b1,d1,rfl⟩:=osd hown
 refine hK.out _ _ (by exact hS.out _ Q2.out) fun hHeld=>?_
 clear hK K
 have O1:=hid (own_mono hown Q1.out.size)
 have O0:=hid (own_pure O0.out hp)
 clear hp hown
 refine tkC 10 fun K hK=>?_
 go_simp
 go_at_call 43;refine (hcc.out _ Q2.out).mono ?_;rintro e y3 ⟨v2,rfl,hown,hp⟩;have Q3:=hid (Q2.out.then_ hp);obtain ⟨b2,d2,rfl⟩:=osd hown
 refine hK.out _ _ (by exact hS.out _ Q3.out) fun hHeld=>?_
 clear hK K
 have O2:=hid (own_mono hown Q2.out.size)
 have O0:=hid (own_pure O0.out hp)
 have O1:=hid (own_pure O1.out hp)
 clear hp hown
 obtain ⟨q0,q1,q2,q3,q4,q5⟩:=hz4.out _ Q3.out
 refine tkA 11 ?_
 refine tkA 12 ?_
 refine tkC 13 fun K hK=>?_
 go_simp
 refine hK.out undef _ (by exact hS2.out _ Q3.out _ _ _) fun hHeld=>?_
 clear hK K
 clear q0 q1 q2 q3 q4 q5
 refine wpAnyH_done qk ?_ _
 go_wp2
 have hz3:=RsB.pureG B4.out Q3.out
 have e:=set3 hz3 (.slice b0 g.1.length d0) (.slice b1 g.2.1.length d1) (.slice b2 g.2.2.length d2)
 have r0:(((y3.setCell ⟨w.heap.size,0,none⟩ (.slice b0 g.1.length d0)).setCell ⟨w.heap.size,1,none⟩ (.slice b1 g.2.1.length d1)).setCell ⟨w.heap.size,2,none⟩ (.slice b2 g.2.2.length d2)).cell? ⟨w.heap.size,0,none⟩=some (.slice b0 g.1.length d0):=cob e 0
 have r1:(((y3.setCell ⟨w.heap.size,0,none⟩ (.slice b0 g.1.length d0)).setCell ⟨w.heap.size,1,none⟩ (.slice b1 g.2.1.length d1)).setCell ⟨w.heap.size,2,none⟩ (.slice b2 g.2.2.length d2)).cell? ⟨w.heap.size,1,none⟩=some (.slice b1 g.2.1.length d1):=cob e 1
 have r2:(((y3.setCell ⟨w.heap.size,0,none⟩ (.slice b0 g.1.length d0)).setCell ⟨w.heap.size,1,none⟩ (.slice b1 g.2.1.length d1)).setCell ⟨w.heap.size,2,none⟩ (.slice b2 g.2.2.length d2)).cell? ⟨w.heap.size,2,none⟩=some (.slice b2 g.2.2.length d2):=cob e 2
 have hk3:=kept3 y3 w.heap.size (.slice b0 g.1.length d0) (.slice b1 g.2.1.length d1) (.slice b2 g.2.2.length d2)
 have hpf:Pure w (((y3.setCell ⟨w.heap.size,0,none⟩ (.slice b0 g.1.length d0)).setCell ⟨w.heap.size,1,none⟩ (.slice b1 g.2.1.length d1)).setCell ⟨w.heap.size,2,none⟩ (.slice b2 g.2.2.length d2)):=Below.setCell (Below.setCell (Below.setCell (Hpz.out.then_ Q3.out) (Nat.le_refl _) _) (Nat.le_refl _) _) (Nat.le_refl _) _
 have hwz:=lob B4.out
 have f0:=fun k hk=>(O0.out.lt k (rb_own hk)).1
 have f1:=fun k hk=>(O1.out.lt k (rb_own hk)).1
 have f2:=fun k hk=>(O2.out.lt k (rb_own hk)).1
 exact bodyPost_ret (v:=.agg #[.slice b0 g.1.length d0,.slice b1 g.2.1.length d1,.slice b2 g.2.2.length d2]) (by simp [results,Tryz.results13,go_sem,r0,r1,r2]) rfl ⟨_,_,_,rfl,⟨Row.kept (Row.of_own O0.out) hk3 (fun k hk e=>by have:=f0 k hk;omega),Row.kept (Row.of_own O1.out) hk3 (fun k hk e=>by have:=f1 k hk;omega),Row.kept (Row.of_own O2.out) hk3 (fun k hk e=>by have:=f2 k hk;omega)⟩,hpf,fun k hk=>by have:=f0 k hk;omega,fun k hk=>by have:=f1 k hk;omega,fun k hk=>by have:=f2 k hk;omega⟩
end
end Go.Proofs.YtdlpnhfgjficgaaGreat
