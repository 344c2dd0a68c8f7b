import Derived.Test.YtdlpnhfgjficgaaGreatEK
import Derived.Test.YtdlpnhfgjficgaaGreatRO
import Derived.Maps.AppendAt
namespace Go.Proofs.YtdlpnhfgjficgaaGreat
section
open Go.RowKit Go.Maps Go.Shelf
theorem RSt2.zero {n m:Nat} {w:World} (h:RAt n 0 0 (List.replicate 51 (.slice none 0 0)) w):RSt2 n m S0 w:=by
 have hv:∀j,j<51→(List.replicate 51 (Value.slice none 0 0))[j]?=some (.slice none 0 0):=fun j hj=>by rw [List.getElem?_replicate,if_pos hj]
 have hz:∀i,SRows i (List.replicate 51 (.slice none 0 0)) S0 w:=fun i=>by
  have hf:∀k,(Value.slice none 0 0).rb=some k→k≠i:=fun k hk=>by simp [Value.rb] at hk
  refine ⟨by simp,fun p hp=>⟨_,_,_,hv _ oe,hv _ oe,hv _ oe,?_,hf,hf,hf⟩,⟨_,hv _ oe,Row.nil _ _,hf⟩,⟨_,hv _ oe,Row.nil _ _,hf⟩,⟨_,hv _ oe,Row.nil _ _,hf⟩⟩
  have:S0.bags.getD p nb=nb:=nb_get 16 p
  rw [this]
  exact ⟨Row.nil _ _,Row.nil _ _,Row.nil _ _⟩
 exact ⟨_,h,hz n,hz m⟩
theorem RFit.of {M:Nat} {S:SD} {t:List UInt8} (ok:SOk M S) (hb:BN 30 (bsz t)) (hM:M≤870):RFit S t:=by
 refine ⟨fun p=>(ok.bag p).v,hb.v,fun p=>?_,fun p=>?_⟩
 ·have h1:=(ok.bag p).l
  have h2:=hb.l
  omega
 ·have h1:=(ok.bag p).c
  have h2:=hb.c
  omega
def XB (n:Nat) (x:Rc) (w:World):Prop:=w.heap[n]?=some (.cells #[.int .i64 x.k,.int .i64 x.n,.int .i64 x.p,.string (bs x.raw)] 39 (0,0))
theorem XB.pure {n:Nat} {x:Rc} {w w' : World} (h:XB n x w) (hp:Pure w w'):XB n x w':=(hp.block _ (lob h)).trans h
theorem XB.kept {n m:Nat} {x:Rc} {w w' : World} (h:XB n x w) (hk:Kept (fun k=>k=m) w w') (hn:n≠m):XB n x w':=(hk.block _ (lob h) hn).trans h
theorem XB.cells {n:Nat} {x:Rc} {w:World} (h:XB n x w):w.cell? ⟨n,0,none⟩=some (.int .i64 x.k)∧w.cell? ⟨n,1,none⟩=some (.int .i64 x.n)∧w.cell? ⟨n,2,none⟩=some (.int .i64 x.p)∧w.cell? ⟨n,3,none⟩=some (.string (bs x.raw)):=by
 have c0:=cob h 0
 have c1:=cob h 1
 have c2:=cob h 2
 have c3:=cob h 3
 simp at c0 c1 c2 c3
 exact ⟨c0,c1,c2,c3⟩
end
section
set_option maxHeartbeats 2000000
set_option maxRecDepth 8000
open Go.RowKit Go.Maps Go.Shelf
theorem tag_eqIn (W:World) (A:ByteArray) (n:Int):(Op.equalIn 10000 90 (.agg #[.string A,.int .i64 n]) (.agg #[.string A,.int .i64 n])).run Tryz.prog W=.ok true W:=by
 have hu:=Tryz.underlying90
 have hi:=Tryz.underlying3
 have hs:=Tryz.underlying9
 have hc:Tryz.prog.cellsOf 3=1:=by kernel_rfl
 have hc2:Tryz.prog.cellsOf 9=1:=by kernel_rfl
 have hf:Tryz.prog.underlying 90=some (.struct (Tryz.prog.fieldsOf 90)):=by simp only [Program.fieldsOf,hu]
 rw [run_equalIn_struct W 9999 90 _ _ hf qk]
 simp only [Program.fieldsOf,hu]
 clear hu hf
 simp [Op.eqFields,go_sem]
theorem peer_eqS (W:World) (a b c:Int):(Op.equalIn 10000 92 (.agg #[.int .i64 a,.int .i64 b,.int .i64 c]) (.agg #[.int .i64 a,.int .i64 b,.int .i64 c])).run Tryz.prog W=.ok true W:=by
 have hu:=Tryz.underlying92
 have hi:=Tryz.underlying3
 have hc:Tryz.prog.cellsOf 3=1:=by kernel_rfl
 have hf:Tryz.prog.underlying 92=some (.struct (Tryz.prog.fieldsOf 92)):=by simp only [Program.fieldsOf,hu]
 rw [run_equalIn_struct W 9999 92 _ _ hf qk]
 simp only [Program.fieldsOf,hu]
 clear hu hf
 simp [Op.eqFields,go_sem]
theorem hold_eqIn (W:World) (a b c d:Int):(Op.equalIn 10000 94 (.agg #[.int .i64 a,.int .i64 b,.int .i64 c,.int .i64 d]) (.agg #[.int .i64 a,.int .i64 b,.int .i64 c,.int .i64 d])).run Tryz.prog W=.ok true W:=by
 have hu:=Tryz.underlying94
 have hi:=Tryz.underlying3
 have hc:Tryz.prog.cellsOf 3=1:=by kernel_rfl
 have hc3:Tryz.prog.cellsOf 28=2:=by kernel_rfl
 have hf:Tryz.prog.underlying 94=some (.struct (Tryz.prog.fieldsOf 94)):=by simp only [Program.fieldsOf,hu]
 rw [run_equalIn_struct W 9999 94 _ _ hf qk]
 simp only [Program.fieldsOf,hu]
 clear hu hf
 simp [Op.eqFields,go_sem]
theorem rtsame_same (v u:Value) (l:List Tag) (w:World) (hv:Tags w v l) (hu:Tags w u l) :
 Calls Tryz.prog 79 #[v,u] w fun e w'=>e=.returned (.bool true)∧Pure w w':=by
 obtain ⟨a,ca,rfl⟩:=GRow.shape hv
 obtain ⟨b,cb,rfl⟩:=GRow.shape hu
 have h2:l.length≤maxLen:=Row.len_le hv
 unfold maxLen at h2
 have Hv:=hid hv
 have Hu:=hid hu
 have heq:=tag_eqIn
 have hne:((l.length:Int) != (l.length:Int))=false:=by simp
 clear hv hu
 go_enter Tryz.func79,Tryz.ntmps79
 go_wp2
 go_loopw [5] (fun x wr=>∃i:Nat,i≤l.length∧x=.int .i64 i∧∃n,wr=w.drewN n) (fun x _=>l.length-(RowKit.intOf x).toNat)
 case atStart=>exact ⟨0,Nat.zero_le _,rfl,0,rfl⟩
 case round =>
  obtain ⟨i,hi,rfl,n,rfl⟩:=hrel
  by_cases hlt:i<l.length
  ·obtain ⟨ba,oa,rfl,_,c0,c1⟩:=Tags.get Hv.out hlt
   obtain ⟨bb,ob,rfl,_,d0,d1⟩:=Tags.get Hu.out hlt
   have hlt' : (i:Int)<(l.length:Int):=by omega
   generalize l.getD i t0=x at *
   obtain ⟨x1,x2⟩:=x
   dsimp only at c0 c1 d0 d1
   go_wp2_with fail
   go_quiet (fail)
   go_wp2
   go_roundw
   case rel=>exact ⟨i+1,by omega,by go_num,_,rfl⟩
   case measure=>simp [RowKit.intOf];omega
  ·have e:i=l.length:=by omega
   subst e
   have hlt' : ¬(l.length:Int)<(l.length:Int):=by omega
   go_wp2
   go_ret
   exact ⟨rfl,pdN _ _⟩
theorem rvsame_same (v u:Value) (l:List Pr) (w:World) (hv:Peers w v l) (hu:Peers w u l) :
 Calls Tryz.prog 80 #[v,u] w fun e w'=>e=.returned (.bool true)∧Pure w w':=by
 obtain ⟨a,ca,rfl⟩:=Row.shape hv
 obtain ⟨b,cb,rfl⟩:=Row.shape hu
 have h2:l.length≤maxLen:=Row.len_le hv
 unfold maxLen at h2
 have Hv:=hid hv
 have Hu:=hid hu
 have heq:=peer_eqS
 have hne:((l.length:Int) != (l.length:Int))=false:=by simp
 clear hv hu
 go_enter Tryz.func80,Tryz.ntmps80
 go_wp2
 go_loopw [5] (fun x wr=>∃i:Nat,i≤l.length∧x=.int .i64 i∧∃n,wr=w.drewN n) (fun x _=>l.length-(RowKit.intOf x).toNat)
 case atStart=>exact ⟨0,Nat.zero_le _,rfl,0,rfl⟩
 case round =>
  obtain ⟨i,hi,rfl,n,rfl⟩:=hrel
  by_cases hlt:i<l.length
  ·obtain ⟨ba,oa,rfl,_,c0,c1,c2⟩:=Peers.get Hv.out hlt
   obtain ⟨bb,ob,rfl,_,d0,d1,d2⟩:=Peers.get Hu.out hlt
   have hlt' : (i:Int)<(l.length:Int):=by omega
   generalize l.getD i p0=x at *
   obtain ⟨x1,x2,x3⟩:=x
   dsimp only at c0 c1 c2 d0 d1 d2
   go_wp2_with fail
   go_quiet (fail)
   go_wp2
   go_roundw
   case rel=>exact ⟨i+1,by omega,by go_num,_,rfl⟩
   case measure=>simp [RowKit.intOf];omega
  ·have e:i=l.length:=by omega
   subst e
   have hlt' : ¬(l.length:Int)<(l.length:Int):=by omega
   go_wp2
   go_ret
   exact ⟨rfl,pdN _ _⟩
theorem rhsame_same (v u:Value) (l:List Hold) (w:World) (hv:Holds w v l) (hu:Holds w u l) :
 Calls Tryz.prog 81 #[v,u] w fun e w'=>e=.returned (.bool true)∧Pure w w':=by
 obtain ⟨a,ca,rfl⟩:=GRow.shape hv
 obtain ⟨b,cb,rfl⟩:=GRow.shape hu
 have h2:l.length≤maxLen:=Row.len_le hv
 unfold maxLen at h2
 have Hv:=hid hv
 have Hu:=hid hu
 have heq:=hold_eqIn
 have hne:((l.length:Int) != (l.length:Int))=false:=by simp
 clear hv hu
 go_enter Tryz.func81,Tryz.ntmps81
 go_wp2
 go_loopw [5] (fun x wr=>∃i:Nat,i≤l.length∧x=.int .i64 i∧∃n,wr=w.drewN n) (fun x _=>l.length-(RowKit.intOf x).toNat)
 case atStart=>exact ⟨0,Nat.zero_le _,rfl,0,rfl⟩
 case round =>
  obtain ⟨i,hi,rfl,n,rfl⟩:=hrel
  by_cases hlt:i<l.length
  ·obtain ⟨ba,oa,rfl,_,c0,c1,c2,c3⟩:=Holds.get Hv.out hlt
   obtain ⟨bb,ob,rfl,_,d0,d1,d2,d3⟩:=Holds.get Hu.out hlt
   have hlt' : (i:Int)<(l.length:Int):=by omega
   generalize l.getD i h0=x at *
   obtain ⟨⟨x1,x2⟩,x3,x4⟩:=x
   dsimp only at c0 c1 c2 c3 d0 d1 d2 d3
   go_wp2_with fail
   go_quiet (fail)
   go_wp2
   go_roundw
   case rel=>exact ⟨i+1,by omega,by go_num,_,rfl⟩
   case measure=>simp [RowKit.intOf];omega
  ·have e:i=l.length:=by omega
   subst e
   have hlt' : ¬(l.length:Int)<(l.length:Int):=by omega
   go_wp2
   go_ret
   exact ⟨rfl,pdN _ _⟩
theorem clonet_any (v:Value) (l:List Tag) (w:World) (hr:Tags w v l) (hl:l.length≤1000000) :
 Calls Tryz.prog 83 #[v] w fun e w'=>∃v',e=.returned v'∧Tags w' v' l∧Pure w w':=by
 obtain ⟨a,cap,rfl⟩:=GRow.shape hr
 obtain ⟨i0,hi,hz0,hz1,hz2⟩:=ipt infoTag
 cases a with
 | none =>
   have h0:l=[]:=by
    rcases Nat.eq_zero_or_pos l.length with h|h
    ·exact List.eq_nil_of_length_eq_zero h
    ·obtain ⟨_,_,e,_⟩:=Tags.get hr h;cases e
   subst h0
   have he:=Lib.run_eql_slice_nil (P:=Tryz.prog) w 49 90 none 0 cap 0 0 Tryz.underlying49
   simp only [Option.isNone_none] at he
   go_enter Tryz.func83,Tryz.ntmps83
   go_wp2
   go_ret
   exact ⟨_,rfl,Row.nil _ _,Below.refl _ _⟩
 | some x =>
   have he:=Lib.run_eql_slice_nil (P:=Tryz.prog) w 49 90 (some x) l.length cap 0 0 Tryz.underlying49
   simp only [Option.isNone_some] at he
   have Hr:=qh (Row (w.alloc (.cells #[] 90)) (.slice (some x) l.length cap) l.length 2 (gvs tcells l)) (Row.pure hr qp)
   clear hr
   go_enter Tryz.func83,Tryz.ntmps83
   go_wp2_with (at_builtin;refine wlar rfl _ _ 49 rfl w.heap.size 90 i0 (.agg #[.string ⟨#[]⟩,.int .i64 0]) 2 24 Tryz.underlying49 hi hz0 hz1 hz2 rfl qd qd _ 0 [] rfl (World.ownsRow_made w #[] 0 (Nat.le_refl _) (Nat.zero_le _) rfl) _ l.length (gvs tcells l) rfl Hr.out (gvs_cells tenc l) oe qb ?_)
   intro v' w2 hown2 hg2
   have hown3:Tags w2 v' l:=Row.of_own (by simpa using hown2)
   go_wp2
   go_ret
   exact ⟨_,rfl,hown3,qp.grown hg2 qb (fun j hj=>by simp [Value.ownBlock] at hj;omega)⟩
theorem cloneh_any (v:Value) (l:List Hold) (w:World) (hr:Holds w v l) (hl:l.length≤1000000) :
 Calls Tryz.prog 85 #[v] w fun e w'=>∃v',e=.returned v'∧Holds w' v' l∧Pure w w':=by
 obtain ⟨a,cap,rfl⟩:=GRow.shape hr
 obtain ⟨i0,hi,hz0,hz1,hz2⟩:=ipt infoHold
 cases a with
 | none =>
   have h0:l=[]:=by
    rcases Nat.eq_zero_or_pos l.length with h|h
    ·exact List.eq_nil_of_length_eq_zero h
    ·obtain ⟨_,_,e,_⟩:=Holds.get hr h;cases e
   subst h0
   have he:=Lib.run_eql_slice_nil (P:=Tryz.prog) w 51 94 none 0 cap 0 0 Tryz.underlying51
   simp only [Option.isNone_none] at he
   go_enter Tryz.func85,Tryz.ntmps85
   go_wp2
   go_ret
   exact ⟨_,rfl,Row.nil _ _,Below.refl _ _⟩
 | some x =>
   have he:=Lib.run_eql_slice_nil (P:=Tryz.prog) w 51 94 (some x) l.length cap 0 0 Tryz.underlying51
   simp only [Option.isNone_some] at he
   have Hr:=qh (Row (w.alloc (.cells #[] 94)) (.slice (some x) l.length cap) l.length 4 (gvs hcells l)) (Row.pure hr qp)
   clear hr
   go_enter Tryz.func85,Tryz.ntmps85
   go_wp2_with (at_builtin;refine wlar rfl _ _ 51 rfl w.heap.size 94 i0 (.agg #[.int .i64 0,.int .i64 0,.int .i64 0,.int .i64 0]) 4 32 Tryz.underlying51 hi hz0 hz1 hz2 rfl qd qd _ 0 [] rfl (World.ownsRow_made w #[] 0 (Nat.le_refl _) (Nat.zero_le _) rfl) _ l.length (gvs hcells l) rfl Hr.out (gvs_cells henc l) oe qb ?_)
   intro v' w2 hown2 hg2
   have hown3:Holds w2 v' l:=Row.of_own (by simpa using hown2)
   go_wp2
   go_ret
   exact ⟨_,rfl,hown3,qp.grown hg2 qb (fun j hj=>by simp [Value.ownBlock] at hj;omega)⟩
theorem clonepr_any (v:Value) (l:List Pr) (w:World) (hr:Peers w v l) (hl:l.length≤1000000) :
 Calls Tryz.prog 84 #[v] w fun e w'=>∃v',e=.returned v'∧Peers w' v' l∧Pure w w' :=
 (clonep_any v l w hr hl).mono fun _ _ ⟨v',h1,h2,h3⟩=>⟨v',h1,Row.of_own h2,h3⟩
theorem stags_any (n:Nat) (S:SD) (w:World) (h:St n S w) (ok:TV S.tags) :
 Calls Tryz.prog 37 #[.pointer (some ⟨n,0,none⟩)] w fun e w'=>∃v',e=.returned v'∧Tags w' v' S.tags∧Pure w w':=by
 obtain ⟨r,hA,hR⟩:=h
 obtain ⟨t,y,HT,-⟩:=hR.tags
 have hn:=ok.n
 have hc:=hid (fun (W:World)=>(show w=W→Calls _ _ _ _ _ from fun e=>e ▸ clonet_any t S.tags w HT oe))
 have c0:=(hA.at2 (j':=50) y rfl).1
 clear hA hR y HT ok hn
 generalize S.tags=L at *
 go_enter Tryz.func37,Tryz.ntmps37
 go_wp2_with fail
 refine (hc.out _ rfl).mono ?_
 rintro e w1 ⟨v',rfl,hr,hp⟩
 have Hr:=hid hr
 have Hp:=hid hp
 clear hr hp
 go_wp2
 go_ret
 exact ⟨_,rfl,Hr.out,Hp.out⟩
theorem sview_any (n:Nat) (S:SD) (w:World) (h:St n S w) (ok:VV S.view) :
 Calls Tryz.prog 38 #[.pointer (some ⟨n,0,none⟩)] w fun e w'=>∃v',e=.returned v'∧Peers w' v' S.view∧Pure w w':=by
 obtain ⟨r,hA,hR⟩:=h
 obtain ⟨t,y,HT,-⟩:=hR.view
 have hn:=ok.n
 have hc:=hid (fun (W:World)=>(show w=W→Calls _ _ _ _ _ from fun e=>e ▸ clonepr_any t S.view w HT oe))
 have c0:=(hA.at2 (j':=51) y rfl).1
 clear hA hR y HT ok hn
 generalize S.view=L at *
 go_enter Tryz.func38,Tryz.ntmps38
 go_wp2_with fail
 refine (hc.out _ rfl).mono ?_
 rintro e w1 ⟨v',rfl,hr,hp⟩
 have Hr:=hid hr
 have Hp:=hid hp
 clear hr hp
 go_wp2
 go_ret
 exact ⟨_,rfl,Hr.out,Hp.out⟩
theorem sholds_any (n:Nat) (S:SD) (w:World) (h:St n S w) (ok:HV S.holds) :
 Calls Tryz.prog 39 #[.pointer (some ⟨n,0,none⟩)] w fun e w'=>∃v',e=.returned v'∧Holds w' v' S.holds∧Pure w w':=by
 obtain ⟨r,hA,hR⟩:=h
 obtain ⟨t,y,HT,-⟩:=hR.holds
 have hn:=ok.n
 have hc:=hid (fun (W:World)=>(show w=W→Calls _ _ _ _ _ from fun e=>e ▸ cloneh_any t S.holds w HT oe))
 have c0:=(hA.at2 (j':=52) y rfl).1
 clear hA hR y HT ok hn
 generalize S.holds=L at *
 go_enter Tryz.func39,Tryz.ntmps39
 go_wp2_with fail
 refine (hc.out _ rfl).mono ?_
 rintro e w1 ⟨v',rfl,hr,hp⟩
 have Hr:=hid hr
 have Hp:=hid hp
 clear hr hp
 go_wp2
 go_ret
 exact ⟨_,rfl,Hr.out,Hp.out⟩
theorem sbag_out (n:Nat) (q:Int) (w:World) (hq:q<0∨16≤q) :
 Calls Tryz.prog 13 #[.pointer (some ⟨n,0,none⟩),.int .i64 q] w fun e w'=>e=.returned (.agg #[.slice none 0 0,.slice none 0 0,.slice none 0 0])∧Pure w w':=by
 have b:=ban w (.cells #[.slice none 0 0,.slice none 0 0,.slice none 0 0] 34)
 have T0:=hid (cob b 0)
 have T1:=hid (cob b 1)
 have T2:=hid (cob b 2)
 clear b
 rcases hq with hq|hq
 ·have h1:q<0:=hq
  go_enter Tryz.func13,Tryz.ntmps13
  go_wp2
  exact bodyPost_ret (v:=.agg #[.slice none 0 0,.slice none 0 0,.slice none 0 0]) (by simp [results,Tryz.results13,go_sem,T0.out,T1.out,T2.out]) rfl ⟨rfl,qp⟩
 ·have h1:¬q<0:=by omega
  have h2:(16:Int)≤q:=hq
  go_enter Tryz.func13,Tryz.ntmps13
  go_wp2
  exact bodyPost_ret (v:=.agg #[.slice none 0 0,.slice none 0 0,.slice none 0 0]) (by simp [results,Tryz.results13,go_sem,T0.out,T1.out,T2.out]) rfl ⟨rfl,qp⟩
end
section
open Go.RowKit Go.Maps
def q4:List (List UInt8):=[[97],[98],[99],[100]]
structure T4 (l:List Tag):Prop where
 v:TV l
 q:∀t ∈ l,t.1 ∈ q4
theorem tmrg4_len {a b:List Tag} (ha:T4 a) (hb:T4 b):(tmrg a b).length≤100:=by
 have hr:=tmrg_rise a b ha.v.r hb.v.r
 have hnd:((tmrg a b).map (·.1)).Nodup:=by
  have:((tmrg a b).map (·.1)).Pairwise (fun x y=>x≠y):=by
   rw [List.pairwise_map]
   exact List.Pairwise.imp (R:=fun x y:Tag=>TL x.1 y.1) (fun {x y} h (e:x.1=y.1)=>TL.irr y.1 (e ▸ h)) hr
  exact this
 have:=nodup_sub_len hnd (k:=q4) (fun s hs=>by
  obtain ⟨t,ht,rfl⟩:=List.mem_map.1 hs
  obtain ⟨u,hu,e⟩:=tmrg_from a b t ht
  rw [←e]
  exact hu.elim (ha.q u) (hb.q u))
 simp [q4] at this
 omega
theorem tjoin4 {a b:List Tag} (ha:T4 a) (hb:T4 b):tjoin a b=tmrg a b:=by
 show (tmrg a b).take 100=_
 exact List.take_of_length_le (tmrg4_len ha hb)
theorem T4.join {a b:List Tag} (ha:T4 a) (hb:T4 b):T4 (tjoin a b):=by
 refine ⟨ha.v.join hb.v,fun t ht=>?_⟩
 rw [tjoin4 ha hb] at ht
 obtain ⟨u,hu,e⟩:=tmrg_from a b t ht
 rw [←e]
 exact hu.elim (ha.q u) (hb.q u)
structure V4 (l:List Pr):Prop where
 v:VV l
 q:∀p ∈ l,1≤p.id∧p.id≤4
theorem vfold_from:∀(b a:List Pr),∀x ∈ vfold a b,∃y,(y ∈ a∨y ∈ b)∧y.id=x.id
 | [],a,x,h=>⟨x,.inl h,rfl⟩
 | p::b,a,x,h=>by
   obtain ⟨y,hy,e⟩:=vfold_from b (pins p a) x h
   rcases hy with hy|hy
   ·rcases pins_mem p a y hy with e2|⟨z,hz,e2⟩
    ·exact ⟨p,.inr qb,by rw [←e,e2]⟩
    ·exact ⟨z,.inl hz,by rw [e2,e]⟩
   ·exact ⟨y,.inr (List.mem_cons_of_mem _ hy),e⟩
theorem vfold4_len {a b:List Pr} (ha:V4 a) (hb:V4 b):(vfold a b).length≤64:=by
 have hr:=(vfold_spec b a ha.v.r hb.v.r).1
 have hnd:((vfold a b).map (·.id)).Nodup:=by
  have:((vfold a b).map (·.id)).Pairwise (fun x y=>x≠y):=by
   rw [List.pairwise_map]
   exact List.Pairwise.imp (R:=fun x y:Pr=>x.id<y.id) (fun {x y} h (e:x.id=y.id)=>by omega) hr
  exact this
 have:=nodup_sub_len hnd (k:=[1,2,3,4]) (fun s hs=>by
  obtain ⟨t,ht,rfl⟩:=List.mem_map.1 hs
  obtain ⟨u,hu,e⟩:=vfold_from b a t ht
  have:=hu.elim (ha.q u) (hb.q u)
  simp only [List.mem_cons,List.not_mem_nil,or_false]
  omega)
 simp at this
 omega
theorem vjoin4 {a b:List Pr} (ha:V4 a) (hb:V4 b):vjoin a b=vfold a b:=List.take_of_length_le (vfold4_len ha hb)
theorem V4.join {a b:List Pr} (ha:V4 a) (hb:V4 b):V4 (vjoin a b):=by
 refine ⟨ha.v.join hb.v,fun t ht=>?_⟩
 rw [vjoin4 ha hb] at ht
 obtain ⟨u,hu,e⟩:=vfold_from b a t ht
 rw [←e]
 exact hu.elim (ha.q u) (hb.q u)
end
section
open Go.RowKit Go.Maps Go.Shelf
theorem SRows.one {n:Nat} {r:List Value} {S:SD} {w:World} (h:SRows n r S w):∀v ∈ r,v.oneCell'=true:=by
 intro v hv
 obtain ⟨j,hj,e⟩:=List.getElem_of_mem hv
 have hl:=h.len
 have hs:∀{u:Value},(∃a n c,u=.slice a n c)→u.oneCell'=true:=by rintro u ⟨a,n,c,rfl⟩;rfl
 have e' : r[j]?=some v:=by rw [List.getElem?_eq_getElem hj,e]
 by_cases h48:j<48
 ·obtain ⟨v0,v1,v2,e0,e1,e2,hb,_⟩:=h.bag (j / 3) oe
  have hc:j=j / 3*3∨j=j / 3*3+1∨j=j / 3*3+2:=by omega
  rcases hc with hc|hc|hc
  ·rw [hc,e0] at e';injection e' with e';subst e'
   obtain ⟨a,c,q⟩:=Row.shape hb.1;exact hs ⟨a,_,c,q⟩
  ·rw [hc,e1] at e';injection e' with e';subst e'
   obtain ⟨a,c,q⟩:=Row.shape hb.2.1;exact hs ⟨a,_,c,q⟩
  ·rw [hc,e2] at e';injection e' with e';subst e'
   obtain ⟨a,c,q⟩:=Row.shape hb.2.2;exact hs ⟨a,_,c,q⟩
 ·have hc:j=48∨j=49∨j=50:=by omega
  rcases hc with rfl|rfl|rfl
  ·obtain ⟨u,eu,hr,_⟩:=h.tags
   rw [eu] at e';injection e' with e';subst e'
   obtain ⟨a,c,q⟩:=GRow.shape hr;exact hs ⟨a,_,c,q⟩
  ·obtain ⟨u,eu,hr,_⟩:=h.view
   rw [eu] at e';injection e' with e';subst e'
   obtain ⟨a,c,q⟩:=Row.shape hr;exact hs ⟨a,_,c,q⟩
  ·obtain ⟨u,eu,hr,_⟩:=h.holds
   rw [eu] at e';injection e' with e';subst e'
   obtain ⟨a,c,q⟩:=GRow.shape hr;exact hs ⟨a,_,c,q⟩
theorem SRows.any {n m:Nat} {r:List Value} {S:SD} {w:World} (h:SRows n r S w) (hm:w.heap.size≤m):SRows m r S w:=by
 refine ⟨h.len,fun p hp'=>?_,?_,?_,?_⟩
 ·obtain ⟨v0,v1,v2,e0,e1,e2,hb,f⟩:=h.bag p hp'
  obtain ⟨l0,l1,l2⟩:=hb
  exact ⟨v0,v1,v2,e0,e1,e2,⟨l0,l1,l2⟩,fun k hk e=>by have:=Row.lt l0 k hk;omega,fun k hk e=>by have:=Row.lt l1 k hk;omega,fun k hk e=>by have:=Row.lt l2 k hk;omega⟩
 ·obtain ⟨v,e,hr,f⟩:=h.tags;exact ⟨v,e,hr,fun k hk e=>by have:=Row.lt hr k hk;omega⟩
 ·obtain ⟨v,e,hr,f⟩:=h.view;exact ⟨v,e,hr,fun k hk e=>by have:=Row.lt hr k hk;omega⟩
 ·obtain ⟨v,e,hr,f⟩:=h.holds;exact ⟨v,e,hr,fun k hk e=>by have:=Row.lt hr k hk;omega⟩
end
section
open Go.RowKit Go.Maps
structure SI (S:SD):Prop where
 bn:S.bags.length=16
 bag:∀p,BV (S.bags.getD p nb)
 tags:T4 S.tags
 view:V4 S.view
def act (x:Rc) (S:SD):SD:=(appl S (rtext x)).1
def actB (p:Nat) (g:Bag) (S:SD):SD:={ S with bags:=S.bags.set p (bjoin (S.bags.getD p nb) g) }
def actN (l:List Tag) (S:SD):SD:={ S with tags:=tjoin S.tags l }
def actV (l:List Pr) (S:SD):SD:={ S with view:=vjoin S.view l }
theorem rtag4 (x:Rc):T4 [rtag x]:=by
 refine ⟨rtag_ok x,fun t ht=>?_⟩
 simp at ht;subst ht
 have h:=andK x.n 3 qd
 have hb:bits .and .i64 x.n 3=0∨bits .and .i64 x.n 3=1∨bits .and .i64 x.n 3=2∨bits .and .i64 x.n 3=3:=by omega
 unfold rtag
 dsimp only
 rcases hb with hb|hb|hb|hb <;> rw [hb] <;> decide
theorem rpr4 (x:Rc):V4 [rpr x]:=by
 refine ⟨rpr_ok x,fun t ht=>?_⟩
 simp at ht;subst ht
 have h:=andK x.n 3 qd
 unfold rpr
 dsimp only
 omega
theorem appl_B {x:Rc} (h:K7 x=2∨K7 x=3) (S:SD):appl S (rtext x)=(actB (rpart x) (rbag x) S,0):=by
 have ht:rtext x=66::(num (rpart x)++bagB (rbag x)):=by unfold rtext;rw [if_neg oe,if_neg oe,if_pos h]
 rw [ht]
 show apB S _=_
 unfold apB
 rw [rdJ_text (rpart_lt x) ((rbag_ok x).mono qd),if_pos rfl]
 rfl
theorem appl_N {x:Rc} (h:K7 x=4) (S:SD):appl S (rtext x)=(actN [rtag x] S,0):=by
 have ht:rtext x=78::tagsB [rtag x]:=by unfold rtext;rw [if_neg oe,if_neg oe,if_neg oe,if_pos h]
 rw [ht]
 show apN S _=_
 have e:=rdTags_bytes (rtag_ok x) []
 rw [List.append_nil] at e
 unfold apN
 rw [e,if_pos rfl]
 rfl
theorem appl_V {x:Rc} (h:K7 x=5) (S:SD):appl S (rtext x)=(actV [rpr x] S,0):=by
 have ht:rtext x=86::viewB [rpr x]:=by unfold rtext;rw [if_neg oe,if_neg oe,if_neg oe,if_neg oe,if_pos h]
 rw [ht]
 show apV S _=_
 have e:=rdView_bytes (rpr_ok x) []
 rw [List.append_nil] at e
 unfold apV
 rw [e,if_pos rfl]
 rfl
theorem SI.zero:SI S0:=by
 refine ⟨rfl,fun p=>?_,⟨TV.nil,by simp [S0]⟩,⟨VV.nil,by simp [S0]⟩⟩
 have:S0.bags.getD p nb=nb:=nb_get 16 p
 rw [this];exact BV.nil
theorem SI.actB {S:SD} (h:SI S) {p:Nat} {g:Bag} (hp:p<16) (hg:BV g):SI (actB p g S):=by
 refine ⟨by show (S.bags.set _ _).length=16;simpa using h.bn,fun q=>?_,h.tags,h.view⟩
 show BV ((S.bags.set _ _).getD q nb)
 rw [set3_getD h.bn hp]
 split
 ·exact (h.bag p).join hg
 ·exact h.bag q
theorem SI.actN {S:SD} (h:SI S) {l:List Tag} (hl:T4 l):SI (actN l S):=⟨h.bn,h.bag,h.tags.join hl,h.view⟩
theorem SI.actV {S:SD} (h:SI S) {l:List Pr} (hl:V4 l):SI (actV l S):=⟨h.bn,h.bag,h.tags,h.view.join hl⟩
def Rk (x:Rc):Prop:=2≤K7 x∧K7 x≤5
theorem act_form {x:Rc} (h:Rk x):(∃p g,p<16∧BV g∧∀S,appl S (rtext x)=(actB p g S,0))∨(∃l,T4 l∧∀S,appl S (rtext x)=(actN l S,0))∨(∃l,V4 l∧∀S,appl S (rtext x)=(actV l S,0)):=by
 unfold Rk at h
 have hk:(K7 x=2∨K7 x=3)∨K7 x=4∨K7 x=5:=by omega
 rcases hk with hk|hk|hk
 ·exact .inl ⟨_,_,rpart_lt x,(rbag_ok x).v,appl_B hk⟩
 ·exact .inr (.inl ⟨_,rtag4 x,appl_N hk⟩)
 ·exact .inr (.inr ⟨_,rpr4 x,appl_V hk⟩)
theorem SI.act {S:SD} (hS:SI S) {x:Rc} (h:Rk x):SI (act x S):=by
 unfold Go.Proofs.YtdlpnhfgjficgaaGreat.act
 rcases act_form h with ⟨p,g,hp,hg,e⟩|⟨l,hl,e⟩|⟨l,hl,e⟩ <;> rw [e]
 ·exact hS.actB hp hg
 ·exact hS.actN hl
 ·exact hS.actV hl
end
section
open Go.RowKit Go.Maps
def actI (b:Int) (S:SD):SD:={ S with id:=b }
def actU (m:Int) (S:SD):SD:={ S with up:=max S.up m }
theorem appl_I {x:Rc} (h:K7 x=0):∃b:Nat,b<4∧∀S:SD,appl S (rtext x)=if b<1 then (S,10) else if S.id≠0∧num S.id.toNat≠num b then (S,13) else (actI b S,0):=by
 have hb:=andK x.n 3 qd
 refine ⟨(bits .and .i64 x.n 3).toNat,by omega,fun S=>?_⟩
 have ht:rtext x=73::num (bits .and .i64 x.n 3).toNat:=by unfold rtext;rw [if_pos h]
 rw [ht]
 generalize hn:(bits .and .i64 x.n 3).toNat=b at *
 have e:=rdInt_num 1099511627776 b oe oe []
 rw [List.append_nil] at e
 show ({ S with id:=(apI S.id (num b)).1 },(apI S.id (num b)).2)=_
 unfold apI
 rw [e]
 dsimp only
 by_cases h1:b<1
 ·rw [if_pos (.inl oe),if_pos h1]
 ·rw [if_neg (by rintro (h|h);omega;exact h rfl),if_neg h1]
  split <;> rfl
theorem appl_U {x:Rc} (h:K7 x=1):(∀S,(appl S (rtext x)).1=S∧(appl S (rtext x)).2≠0)∨∃m,∀S,appl S (rtext x)=(actU m S,0):=by
 have ht:rtext x=82::num (max 0 x.n).toNat:=by unfold rtext;rw [if_neg oe,if_pos h]
 rw [ht]
 by_cases hc:(rdInt 1099511627776 (some (num (max 0 x.n).toNat))).1<1∨(rdInt 1099511627776 (some (num (max 0 x.n).toNat))).2≠some []
 ·left
  intro S
  show ({ S with up:=(apR S.up _).1 }:SD)=S∧(apR S.up _).2≠0
  unfold apR
  rw [if_pos hc]
  exact ⟨rfl,by show (10:Int)≠0;decide⟩
 ·right
  refine ⟨(rdInt 1099511627776 (some (num (max 0 x.n).toNat))).1,fun S=>?_⟩
  show ({ S with up:=(apR S.up _).1 },(apR S.up _).2)=_
  unfold apR
  rw [if_neg hc]
  rfl
def Ra (x:Rc):Prop:=K7 x≤5
theorem ra_cases {x:Rc} (h:Ra x):K7 x=0∨K7 x=1∨Rk x:=by
 have:=andK x.k 7 qd
 unfold Ra Rk K7 at *;omega
theorem SI.appl {S:SD} (hS:SI S) {x:Rc} (h:Ra x):SI (appl S (rtext x)).1:=by
 rcases ra_cases h with h|h|h
 ·obtain ⟨b,_,e⟩:=appl_I h
  rw [e]
  split
  ·exact hS
  ·split
   ·exact hS
   ·exact ⟨hS.bn,hS.bag,hS.tags,hS.view⟩
 ·rcases appl_U h with e|⟨m,e⟩
  ·rw [(e S).1];exact hS
  ·rw [e];exact ⟨hS.bn,hS.bag,hS.tags,hS.view⟩
 ·exact hS.act h
end
section
open Go.RowKit Go.Maps Go.Shelf
theorem St2.keep {n c:Nat} {S:SD} {w w' : World} (h:St2 n c S w) (hk:Kept (fun k=>k=c) w w') (hn:n≠c):St2 n c S w':=by
 obtain ⟨r,h1,h2,h3⟩:=h
 exact ⟨r,h1.kept hk hn,h2.kept2 h3 hk,h3.kept hk⟩
end
section
open Go.RowKit Go.Maps Go.Shelf
theorem St2.zero {n m:Nat} {w:World} (h:SAt n 0 0 (List.replicate 51 (.slice none 0 0)) w):St2 n m S0 w:=by
 have hv:∀j,j<51→(List.replicate 51 (Value.slice none 0 0))[j]?=some (.slice none 0 0):=fun j hj=>by rw [List.getElem?_replicate,if_pos hj]
 have hz:∀i,SRows i (List.replicate 51 (.slice none 0 0)) S0 w:=fun i=>by
  have hf:∀k,(Value.slice none 0 0).rb=some k→k≠i:=fun k hk=>by simp [Value.rb] at hk
  refine ⟨by simp,fun p hp=>⟨_,_,_,hv _ oe,hv _ oe,hv _ oe,?_,hf,hf,hf⟩,⟨_,hv _ oe,Row.nil _ _,hf⟩,⟨_,hv _ oe,Row.nil _ _,hf⟩,⟨_,hv _ oe,Row.nil _ _,hf⟩⟩
  have:S0.bags.getD p nb=nb:=nb_get 16 p
  rw [this]
  exact ⟨Row.nil _ _,Row.nil _ _,Row.nil _ _⟩
 exact ⟨_,h,hz n,hz m⟩
end
section
open Go.RowKit Go.Maps Go.Shelf
theorem St2.grown {n bm:Nat} {S:SD} {w w' : World} {v v' : Value} (h:St2 n bm S w) (hb:bm=v.ownBlock.getD n) (hg:w.grownBy w' v.ownBlock) (ho:v'.ownBlock=v.ownBlock∨v'.ownBlock=some w.heap.size) (hn:∀j,v.ownBlock=some j→n≠j):St2 n (v'.ownBlock.getD n) S w':=by
 obtain ⟨r,h1,h2,h3⟩:=h
 cases e:v.ownBlock with
 | none =>
   rw [e] at hg ho hb
   have hp:Pure w w':=Below.grown (Below.refl _ _) hg (Nat.le_refl _) (fun k e=>by cases e)
   rcases ho with ho|ho <;> rw [ho]
   ·exact ⟨r,h1.pure hp,h2.pure hp,h2.pure hp⟩
   ·exact ⟨r,h1.pure hp,h2.pure hp,(h2.any (Nat.le_refl _)).pure hp⟩
 | some j =>
   rw [e] at hg ho hb
   have hbj:bm=j:=hb
   subst hbj
   have hk:Kept (fun k=>k=bm) w w':=Kept.grown (S:=fun k=>k=bm) (Kept.refl _ _) hg (fun k e _=>by cases e;rfl)
   have hne:=hn bm e
   have k1:=h1.kept hk hne
   have k2:=h2.kept2 h3 hk
   rcases ho with ho|ho <;> rw [ho]
   ·exact ⟨r,k1,k2,h3.kept hk⟩
   ·exact ⟨r,k1,k2,(h2.any (Nat.le_refl w.heap.size)).kept2 h3 hk⟩
end
end Go.Proofs.YtdlpnhfgjficgaaGreat
