import Derived.Test.YtdlpnhfgjficgaaGreatMX32
set_option maxHeartbeats 8000000
set_option maxRecDepth 8000
namespace Go.Proofs.YtdlpnhfgjficgaaGreat
open Go.RowKit Go.Maps Go.Shelf
theorem SOk.mono {a b:Nat} {T:SD} (h:SOk a T) (e:a≤b):SOk b T:=⟨h.id0,h.id1,h.up0,h.up1,h.bn,fun p=>(h.bag p).mono e,h.tags,h.view,h.holds⟩
theorem loads_walk (a0:Option Addr) (len cap:Nat) (L:List Rc) (w:World) (h:RecsIn w a0 len cap L) :
 Calls Tryz.prog 10 #[.slice a0 len cap] w fun e w'=>e=.returned (.bool true)∧Pure w w':=by
 obtain ⟨hlen,hrow,hwf⟩:=h
 subst hlen
 have haw:=hid awake19_any
 have Htx:=hid (fun k (hk:k<L.length) W=>text_any (L.getD k rc0) W (hwf (L.getD k rc0) (by simp [List.getD,hk])))
 unfold TxP at Htx
 have Hrow:=hid (fun W (hW:Pure w W)=>(show Recs W (.slice a0 L.length cap) L from Row.pure hrow hW))
 clear hrow hwf
 go_enter Tryz.func10,Tryz.ntmps10
 go_wp2_with fail
 refine (haw.out _).mono ?_
 rintro e w1 ⟨rfl,hp1⟩
 have Hp1:=hid hp1
 clear hp1
 go_wp2_with fail
 refine (snew_any _).mono ?_
 rintro e w2 ⟨rfl,hs2,hp2⟩
 have Hp2:=hid (Hp1.out.then_ hp2)
 have Hs2:=qh (St2 w1.heap.size w1.heap.size S0 w2) (St2.zero hs2)
 obtain ⟨n,hn⟩:=qe (w1.heap.size)
 have Hn:=qh (w.heap.size≤n) (by rw [hn];exact Hp1.out.size)
 have Hww:=qh (w.heap.size≤w2.heap.size) (Hp2.out.size)
 have Hn2:=qh (n<w2.heap.size) (by rw [hn];exact Hs2.out.lt)
 rw [←hn] at Hs2 ⊢
 clear hs2 hp2 hn
 obtain ⟨i0,hi,hz0,hz1,hz2⟩:=ipt infoStr
 go_wp2
 go_loopw [5,6,7] (fun v i _ wr=>∃(k:Nat) (S:SD),k≤L.length∧k≤30∧i=.int .i64 k∧wr.ownsRow w2.heap.size 9 1 v k (svs ((L.take k).map rtext))∧St2 n (v.ownBlock.getD n) S wr∧SOk (30*k) S∧Pure w wr∧w2.heap.size≤wr.heap.size) (fun _ i _ _=>30-(RowKit.intOf i).toNat)
 case atStart=>exact ⟨0,S0,Nat.zero_le _,Nat.zero_le _,rfl,World.ownsRow_nil _ _ _ _,by simpa [Value.ownBlock] using Hs2.out,SOk.zero 0,Hp2.out,Nat.le_refl _⟩
 case round =>
  obtain ⟨k,S,hk,hk30,rfl,hown,hst,hok,hpr,hw2⟩:=hrel
  have Hw2:=hid hw2
  clear hw2
  have Hown:=hid hown
  have Hst:=hid hst
  have Hok:=hid hok
  have Hpr:=hid hpr
  obtain ⟨av,cv,rfl⟩:=osd hown
  obtain ⟨bm,hbm⟩:=qe ((Value.slice av k cv).ownBlock.getD n)
  have Hbm:=hid hbm
  have Hbl:=qh (bm<wr.heap.size) (by
   rw [hbm]
   cases ho:(Value.slice av k cv).ownBlock with
   | none=>exact hst.lt
   | some j=>exact (hown.lt j ho).2)
  rw [←hbm] at Hst
  clear hown hst hok hbm
  by_cases hlt:k<L.length∧k<30
  ·obtain ⟨hl1,hl2⟩:=hlt
   obtain ⟨b,off,rfl,hb0,x0,x1,x2,x3⟩:=Recs.get (Hrow.out wr hpr) hl1
   have hl1' : (k:Int)<(L.length:Int):=by omega
   have hl2' : (k:Int)<30:=by omega
   have Ht:=hid (Htx.out k hl1)
   have hsn:(L.take (k+1)).map rtext=(L.take k).map rtext++[rtext (L.getD k rc0)]:=by
    have e:L.take (k+1)=L.take k++[L.getD k rc0]:=by rw [List.take_succ_eq_append_getElem hl1];simp [List.getD,hl1]
    rw [e,List.map_append];rfl
   have Hsn:=hid hsn
   have Hbs:=hid (bsz_text (L.getD k rc0))
   clear hpr hb0 hsn
   generalize L.getD k rc0=x at *
   generalize rtext x=tx at *
   obtain ⟨y1,y2,y3,y4⟩:=x
   unfold rcV at Ht
   dsimp only at Ht x0 x1 x2 x3
   obtain ⟨X,hX⟩:=qe ((L.take k).map rtext)
   rw [←hX] at Hown Hsn
   clear hX
   go_wp2_with fail
   refine (Ht.out _).mono ?_
   rintro e w5 ⟨rfl,hp5⟩
   have Hq5:=hid hp5
   clear hp5 x0 x1 x2 x3
   go_wp2_with fail
   refine (sapply_any n bm (30*k) 30 S tx w5 (Hst.out.pure Hq5.out) (Nat.lt_of_lt_of_le Hbl.out Hq5.out.size) Hok.out Hbs.out oe).mono ?_
   rintro e w6 ⟨rfl,hs6,hk6⟩
   have HS6:=hid hs6
   have Hk6:=hid hk6
   have HO6:=hid (Hok.out.appl Hbs.out)
   have HR6:=qh (w6.ownsRow w2.heap.size 9 1 (.slice av k cv) k (svs X)) (own_kept (own_pure Hown.out Hq5.out) hk6 (fun j hj e=>by have:=(Hown.out.lt j hj).1;have:=Hn2.out;omega))
   have HP6:=hid (pure_box (Hpr.out.then_ Hq5.out) hk6 Hn.out)
   have hsz6:w2.heap.size≤w6.heap.size:=Nat.le_trans (show w2.heap.size≤wr.heap.size from Hw2.out) (Nat.le_trans Hq5.out.size Hk6.out.size)
   clear hs6 hk6
   generalize (appl S tx).1=S2 at *
   generalize (appl S tx).2=e2 at *
   go_wp2_with (at_builtin;refine wpList_append_own_at _ rfl _ _ 61 rfl w2.heap.size 9 i0 (.string ⟨#[]⟩) 1 16 Tryz.underlying61 hi hz0 hz1 hz2 rfl qd (.slice av k cv) k (svs X) rfl (HR6.out.alloc _) ⟨w6.heap.size,0,none⟩ 1 1 (svs [tx]) rfl rfl (str_lit_cells w6 tx) (svs_one _) (by unfold maxLen;omega) oe qc ?_)
   intro v8 w8 hown8 hg8 _ hob
   have HP6b:=hid ((Below.refl _ w6).alloc (Nat.le_refl w6.heap.size) (.cells #[.string (bs tx)] 9))
   have HS7:=hid (HS6.out.pure HP6b.out)
   have HS8:=hid (St2.grown HS7.out Hbm.out hg8 (by rw [World.size_alloc];exact hob) (fun j hj=>by have:=(Hown.out.lt j hj).1;have:=Hn2.out;omega))
   have HP8:=hid (Below.grown (HP6.out.then_ HP6b.out) hg8 (HP6.out.then_ HP6b.out).size (fun j hj=>Nat.le_trans Hww.out (Hown.out.lt j hj).1))
   have HZ8:=hid (Nat.le_trans (Nat.le_trans hsz6 HP6b.out.size) hg8.size)
   have HO8:=qh (w8.ownsRow w2.heap.size 9 1 v8 (k+1) (svs ((L.take (k+1)).map rtext))) (by
    rw [Hsn.out,svs_append];exact hown8)
   clear hown8 hg8 hob hsz6
   go_wp2
   go_roundw
   case rel=>exact ⟨k+1,S2,by omega,by omega,by go_num,HO8.out,HS8.out,by rw [Nat.mul_add];exact HO6.out,HP8.out,HZ8.out⟩
   case measure=>simp [RowKit.intOf];omega
  ·have hx:¬k<L.length∨(k<L.length∧k=30):=by omega
   have hxx:(¬(k:Int)<(L.length:Int))∨((k:Int)<(L.length:Int)∧¬(k:Int)<30):=by omega
   clear hlt hx
   obtain ⟨X,hX⟩:=qe ((L.take k).map rtext)
   have hXl:X.length=k:=by rw [hX,List.length_map,List.length_take];omega
   have HXb:=qh (∀t ∈ X,BN 30 (bsz t)) (fun t ht=>by
    rw [hX] at ht
    obtain ⟨y,_,rfl⟩:=List.mem_map.1 ht
    exact bsz_text y)
   have HF1:=hid (LFit.rc (P:=StepOk) stepOk_rc X 0 S0 (SOk.zero 0) HXb.out oe)
   have HF2:=hid (LFit.rc (P:=StepR) stepR_rc X 0 S0 (SOk.zero 0) HXb.out oe)
   have HTk:=qh (SOk 900 (loadL S0 X).1) ((loadL_ok 0 X S0 (SOk.zero 0) HXb.out).mono oe)
   have HX:=qh (Strs wr (.slice av k cv) X) (by
    have:=Row.of_own Hown.out
    rw [←hX] at this
    unfold Strs
    rw [hXl];exact this)
   have HOk:=qh (SOk 900 S) (Hok.out.mono oe)
   have Hre:=hid (reload HOk.out qd)
   have Hs:=hid Hst.out.st
   clear hX hXl HXb Hown Hst Hok Hbm Hbl hpr hk hk30
   rcases hxx with hx'|⟨hx',hx2⟩
   all_goals
    go_wp2_with fail
    refine (srecs_any n S 900 wr Hs.out HOk.out qd).mono ?_
    rintro e w3 ⟨v3,rfl,hown3,hp3⟩
    have HP3:=hid (Hpr.out.then_ hp3)
    have HR3:=qh (Strs w3 v3 (srecs S)) (Row.of_own hown3)
    have Hs3:=hid (Hs.out.pure hp3)
    have HX3:=qh (Strs w3 (.slice av k cv) X) (Row.pure HX.out hp3)
    clear hown3 hp3
    go_wp2_with fail
    refine (sload_any _ (srecs S) w3 HR3.out Hre.out.1).mono ?_
    rw [Hre.out.2]
    rintro e w4 (⟨n4,-,hn4,rfl,hs4,hp4⟩|⟨h0,-⟩)
    case inr=>exact absurd rfl h0
    have HP4:=hid (HP3.out.then_ hp4)
    have Hs4:=hid (Hs3.out.pure hp4)
    have Ha4:=hid hs4.st
    have HX4:=qh (Strs w4 (.slice av k cv) X) (Row.pure HX3.out hp4)
    clear hs4 hp4 hn4
    go_wp2_with fail
    refine (srecs_any n4 S 900 w4 Ha4.out HOk.out qd).mono ?_
    rintro e w5 ⟨v5,rfl,hown5,hp5⟩
    have HP5:=hid (HP4.out.then_ hp5)
    have HR5:=qh (Strs w5 v5 (srecs S)) (Row.of_own hown5)
    have Hs5:=hid (Hs4.out.pure hp5)
    have HX5:=qh (Strs w5 (.slice av k cv) X) (Row.pure HX4.out hp5)
    clear hown5 hp5
    go_wp2_with fail
    refine (srecs_any n S 900 w5 Hs5.out HOk.out qd).mono ?_
    rintro e w6 ⟨v6,rfl,hown6,hp6⟩
    have HP6:=hid (HP5.out.then_ hp6)
    have HR6:=qh (Strs w6 v6 (srecs S)) (Row.of_own hown6)
    have HR7:=qh (Strs w6 v5 (srecs S)) (Row.pure HR5.out hp6)
    have HX6:=qh (Strs w6 (.slice av k cv) X) (Row.pure HX5.out hp6)
    clear hown6 hp6
    go_wp2_with fail
    refine (rstexts_same _ _ _ _ HR7.out HR6.out).mono ?_
    rintro e w7 ⟨rfl,hp7⟩
    have HP7:=hid (HP6.out.then_ hp7)
    have HX7:=qh (Strs w7 (.slice av k cv) X) (Row.pure HX6.out hp7)
    clear hp7
    go_wp2_with fail
    refine (sload_any _ X w7 HX7.out HF1.out).mono ?_
    rintro e w8 (⟨n8,hT8,-,rfl,hs8,hp8⟩|⟨hT8,rfl,hp8⟩)
    ·have HP8:=hid (HP7.out.then_ hp8)
     have Hb8:=hid hs8.st
     have HX8:=qh (Strs w8 (.slice av k cv) X) (Row.pure HX7.out hp8)
     clear hs8 hp8
     go_wp2_with fail
     refine (rload_any _ X w8 HX8.out HF2.out).mono ?_
     rintro e w9 (⟨n9,-,-,rfl,hs9,hp9⟩|⟨h0,-⟩)
     case inr=>exact absurd hT8 h0
     have HP9:=hid (HP8.out.then_ hp9)
     have Hb9:=hid (Hb8.out.pure hp9)
     have Hr9:=hid hs9
     clear hs9 hp9 hT8
     go_wp2_with fail
     refine (same19_any n8 n9 n9 900 (loadL S0 X).1 w9 Hb9.out Hr9.out HTk.out qd).mono ?_
     rintro e w10 ⟨rfl,hp10⟩
     have HP10:=hid (HP9.out.then_ hp10)
     clear hp10
     go_wp2
     go_ret
     exact ⟨rfl,HP10.out⟩
    ·have HP8:=hid (HP7.out.then_ hp8)
     have HX8:=qh (Strs w8 (.slice av k cv) X) (Row.pure HX7.out hp8)
     clear hp8
     go_wp2_with fail
     refine (rload_any _ X w8 HX8.out HF2.out).mono ?_
     rintro e w9 (⟨n9,h0,-⟩|⟨-,rfl,hp9⟩)
     case inl=>exact absurd h0 hT8
     have HP9:=hid (HP8.out.then_ hp9)
     clear hp9 hT8
     generalize (loadL S0 X).2=E at *
     go_wp2
     go_ret
     exact ⟨rfl,HP9.out⟩
end Go.Proofs.YtdlpnhfgjficgaaGreat
