import Derived.Test.YtdlpnhfgjficgaaGreatMX48
set_option maxHeartbeats 8000000
set_option maxRecDepth 20000
namespace Go.Proofs.YtdlpnhfgjficgaaGreat
open Go.RowKit Go.Maps Go.Shelf
theorem RFit.wide {M:Nat} {S:SD} {t:List UInt8} (ok:SOk M S) (hb:BN 30 (bsz t)) (hM:M≤2970):RFit S t:=by
 refine ⟨fun p=>(ok.bag p).v,hb.v,fun p=>?_,fun p=>?_⟩
 ·have h1:=(ok.bag p).l
  have h2:=hb.l
  omega
 ·have h1:=(ok.bag p).c
  have h2:=hb.c
  omega
theorem plays_walk (a0:Option Addr) (len cap:Nat) (L:List Rc) (w:World) (h:RecsIn w a0 len cap L) :
 Calls Tryz.prog 8 #[.slice a0 len cap] w fun e w'=>e=.returned (.bool true)∧Pure w w':=by
 obtain ⟨hlen,hrow,hwf⟩:=h
 subst hlen
 have haw:=hid awake19_any
 have Htx:=hid (fun k (hk:k<L.length) W=>text_any (L.getD k rc0) W (hwf (L.getD k rc0) (by simp [List.getD,hk])))
 unfold TxP at Htx
 have Hrow:=hid (fun W (hW:Pure w W)=>(show Recs W (.slice a0 L.length cap) L from Row.pure hrow hW))
 clear hrow hwf
 go_enter Tryz.func8,Tryz.ntmps8
 go_wp2_with fail
 refine (haw.out _).mono ?_
 rintro e w1 ⟨rfl,hp1⟩
 have Hp1:=hid hp1
 clear hp1
 go_wp2_with fail
 refine (snew_any _).mono ?_
 rintro e w2 ⟨rfl,hs2,hp2⟩
 have Hp2:=hid (Hp1.out.then_ hp2)
 have Hs2:=hid (fun m=>(show St2 w1.heap.size m S0 w2 from St2.zero hs2))
 obtain ⟨n,hn⟩:=qe (w1.heap.size)
 have Hn:=qh (w.heap.size≤n) (by rw [hn];exact Hp1.out.size)
 rw [←hn] at Hs2 ⊢
 clear hs2 hp2 hn
 go_wp2
 obtain ⟨w3,hw3⟩ : ∃w3,w2.alloc (.cells #[.int .i64 0,.int .i64 0,.slice none 0 0,.slice none 0 0,.slice none 0 0,.slice none 0 0,.slice none 0 0,.slice none 0 0,.slice none 0 0,.slice none 0 0,.slice none 0 0,.slice none 0 0,.slice none 0 0,.slice none 0 0,.slice none 0 0,.slice none 0 0,.slice none 0 0,.slice none 0 0,.slice none 0 0,.slice none 0 0,.slice none 0 0,.slice none 0 0,.slice none 0 0,.slice none 0 0,.slice none 0 0,.slice none 0 0,.slice none 0 0,.slice none 0 0,.slice none 0 0,.slice none 0 0,.slice none 0 0,.slice none 0 0,.slice none 0 0,.slice none 0 0,.slice none 0 0,.slice none 0 0,.slice none 0 0,.slice none 0 0,.slice none 0 0,.slice none 0 0,.slice none 0 0,.slice none 0 0,.slice none 0 0,.slice none 0 0,.slice none 0 0,.slice none 0 0,.slice none 0 0,.slice none 0 0,.slice none 0 0,.slice none 0 0,.slice none 0 0,.slice none 0 0,.slice none 0 0] 53)=w3:=⟨_,rfl⟩
 have Hr3:=hid (fun m=>(show RSt2 w2.heap.size m S0 w3 from RSt2.zero (by rw [←hw3];exact ban _ _)))
 have Hp3:=qh (Pure w w3) (by rw [←hw3];exact Hp2.out.alloc Hp2.out.size _)
 have Hs3:=hid (fun m=>(show St2 n m S0 w3 from by rw [←hw3];exact (Hs2.out m).pure qp))
 have Hne:=qh (n<w2.heap.size) ((Hs2.out 0).lt)
 rw [hw3]
 clear hw3
 generalize w2.heap.size=nr at *
 go_loopw [6] (fun i wr=>∃(k:Nat) (S:SD),k≤L.length∧k≤40∧i=.int .i64 k∧St2 n nr S wr∧RSt2 nr n S wr∧SOk (30*k) S∧Pure w wr) (fun i _=>40-(RowKit.intOf i).toNat)
 case atStart=>exact ⟨0,S0,Nat.zero_le _,Nat.zero_le _,rfl,Hs3.out _,Hr3.out _,SOk.zero 0,Hp3.out⟩
 case round =>
  obtain ⟨k,S,hk,hk40,rfl,hst,hrt,hok,hpr⟩:=hrel
  have Hst:=hid hst
  have Hrt:=hid hrt
  have Hok:=hid hok
  have Hpr:=hid hpr
  clear hst hrt hok
  by_cases hlt:k<L.length∧k<40
  ·obtain ⟨hl1,hl2⟩:=hlt
   obtain ⟨b,off,rfl,hb0,x0,x1,x2,x3⟩:=Recs.get (Hrow.out wr hpr) hl1
   have hl1' : (k:Int)<(L.length:Int):=by omega
   have hl2' : (k:Int)<40:=by omega
   have Ht:=hid (Htx.out k hl1)
   have Hbs:=hid (bsz_text (L.getD k rc0))
   clear hpr hb0
   generalize L.getD k rc0=x at *
   generalize rtext x=tx at *
   obtain ⟨y1,y2,y3,y4⟩:=x
   unfold rcV at Ht
   dsimp only at Ht x0 x1 x2 x3
   go_wp2_with fail
   refine (Ht.out _).mono ?_
   rintro e w5 ⟨rfl,hp5⟩
   have Hq5:=hid hp5
   clear hp5 x0 x1 x2 x3
   go_wp2_with fail
   refine (sapply_any n nr (30*k) 30 S tx w5 (Hst.out.pure Hq5.out) (Hrt.out.pure Hq5.out).lt Hok.out Hbs.out oe).mono ?_
   rintro e w6 ⟨rfl,hs6,hk6⟩
   have HS6:=hid hs6
   have HR6:=hid ((Hrt.out.pure Hq5.out).keep hk6 (by have:=Hne.out;omega))
   have HO6:=qh (SOk (30*(k+1)) (appl S tx).1) (by rw [Nat.mul_add];exact Hok.out.appl Hbs.out)
   have HP6:=hid (pure_box (Hpr.out.then_ Hq5.out) hk6 Hn.out)
   have HF6:=qh (RFit S tx) (RFit.wide Hok.out Hbs.out oe)
   clear hs6 hk6
   go_wp2_with fail
   refine (rapply_any nr n (30*k) S tx w6 HR6.out HS6.out.lt Hok.out HF6.out).mono ?_
   rintro e w7 ⟨rfl,hr7,hk7⟩
   have HR7:=hid hr7
   have HS7:=hid (HS6.out.keep hk7 (by have:=Hne.out;omega))
   have HP7:=hid (pure_box HP6.out hk7 (by have:=Hn.out;have:=Hne.out;omega))
   clear hr7 hk7
   generalize (appl S tx).1=S2 at *
   generalize (appl S tx).2=e2 at *
   go_wp2_with fail
   refine (same19_any n nr n (30*(k+1)) S2 w7 HS7.out.st HR7.out HO6.out oe).mono ?_
   rintro e w8 ⟨rfl,hp8⟩
   have HP8:=hid (HP7.out.then_ hp8)
   have HS8:=hid (HS7.out.pure hp8)
   have HR8:=hid (HR7.out.pure hp8)
   clear hp8
   go_wp2
   go_roundw
   case rel=>exact ⟨k+1,S2,by omega,by omega,by go_num,HS8.out,HR8.out,HO6.out,HP8.out⟩
   case measure=>simp [RowKit.intOf];omega
  ·have hxx:(¬(k:Int)<(L.length:Int))∨((k:Int)<(L.length:Int)∧¬(k:Int)<40):=by omega
   clear hlt hpr
   rcases hxx with hx'|⟨hx',hx2⟩
   all_goals
    go_wp2
    go_ret
    exact ⟨rfl,Hpr.out⟩
end Go.Proofs.YtdlpnhfgjficgaaGreat
